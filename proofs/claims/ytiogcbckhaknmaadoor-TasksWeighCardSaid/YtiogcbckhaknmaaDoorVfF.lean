/-
  The program's regions. Conditions: the text reads, within the reach; rounds lead back.
-/
import Derived.Test.YtiogcbckhaknmaaDoorVp6
import Derived.Test.YtiogcbckhaknmaaDoorVfD
import Derived.Deep.CutBlock
namespace Go.Proofs.YtiogcbckhaknmaaDoor.Vf
open Go.RowKit Go.Maps Go.Proofs.YtiogcbckhaknmaaDoor.W Go.Proofs.YtiogcbckhaknmaaDoor.Ints Go.Proofs.YtiogcbckhaknmaaDoor.Cod

theorem region_info : (Tryd.prog.info? 84).map (fun i => (i.zero, i.size, i.bytes)) = some (some (.agg #[.int .i64 0, .int .i64 0, .int .i64 0, .int .i64 0]), 4, 32) := by kernel_rfl
theorem lawI : Keyed Tryd.prog 3 := int_keyed Tryd.underlying3
theorem zeroI (w : World) : (zeroValue 3).run Tryd.prog w = .ok (.int .i64 0) w := by kernel_rfl
abbrev OwnI (w : World) (g n : Nat) (D : DataW Unit) : Prop := w.ownsMap Tryd.prog 3 (plainElem Tryd.prog 3) g n D
theorem ownI_below {w w' : World} {g n : Nat} {D : DataW Unit} (h : OwnI w g n D) (hb : Below w.heap.size w w') : OwnI w' g n D := by
  obtain ⟨es, clock, h1, h2⟩ := h
  exact ⟨es, clock, (hb.block g (Array.getElem?_eq_some_iff.1 h1).1).trans h1, h2⟩
theorem own_cut {w : World} {base : Nat} {e : TypeId} {sz : Nat} {A : Option Addr} {n m c : Nat} {xs : List Value} (h : w.ownsRow base e sz (.slice A m c) m xs) (hn : n ≤ m) : w.ownsRow base e sz (.slice A n c) n (xs.take (n * sz)) := by
  have hnm : n * sz ≤ m * sz := Nat.mul_le_mul_right sz hn
  refine ⟨by have := h.1; rw [List.length_take, this]; omega, ?_⟩
  rcases h.2 with ⟨h1, h0⟩ | ⟨g, cap, cur, hv, hb, hg, hnc, hcm, hs, ht⟩
  · injection h1 with e1 e2 e3
    left
    subst e1 e3
    exact ⟨by rw [show n = 0 by omega], by omega⟩
  · injection hv with e1 e2 e3
    subst e1 e3
    exact .inr ⟨g, _, cur, rfl, hb, hg, by omega, hcm, hs, by rw [← ht, List.take_take, Nat.min_eq_left hnm]⟩
theorem Mem.cut {w0 w : World} {Ks : List Box} {Os : List Row} {e : TypeId} {sz : Nat} {A : Option Addr} {n m c : Nat} {xs : List Value} (h : Mem w0 w Ks (⟨e, sz, A, m, c, xs⟩ :: Os)) (hn : n ≤ m) : Mem w0 w Ks (⟨e, sz, A, n, c, xs.take (n * sz)⟩ :: Os) :=
  h.grow (Grow.refl w _) (own_cut (h.own _ (List.mem_cons_self ..)) hn) (.inl (by cases A <;> rfl))
theorem loops_take (L : List LP) (k : Nat) : (loopsV L).take (k * 4) = loopsV (L.take k) := by
  induction L generalizing k with
  | nil => simp [loopsV]
  | cons l L ih =>
    cases k with
    | zero => simp [loopsV]
    | succ k =>
      rw [List.take_succ_cons]
      show (l.cs ++ loopsV L).take ((k + 1) * 4) = l.cs ++ loopsV (L.take k)
      rw [← ih k, show (k + 1) * 4 = l.cs.length + k * 4 by rw [LP.size]; omega, List.take_length_add_append]
set_option maxRecDepth 100000 in
set_option maxHeartbeats 1600000 in
theorem holds_any (l : LP) (i : Int) (w : World) : Calls Tryd.prog 39 #[LP.val l, .int .i64 i] w fun e w' => e = .returned (.bool (decide (inL l i))) ∧ Below w.heap.size w w' := by
  obtain ⟨lf, lt, lc, lm⟩ := l
  go_enter Tryd.func39, Tryd.ntmps39
  go_upto_region 1 with fail
  have M0 := Lib.hid ((Mem.start w).alloc 84 #[.int .i64 (lf : Int), .int .i64 (lt : Int), .int .i64 lc, .int .i64 lm])
  generalize World.alloc _ _ = w1 at M0 ⊢
  generalize w.heap.size = gb at M0 ⊢
  have x0 : w1.cell? ⟨gb, 0, none⟩ = some (.int .i64 (lf : Int)) := M0.out.cellK 0 rfl 0
  have x1 : w1.cell? ⟨gb, 1, none⟩ = some (.int .i64 (lt : Int)) := M0.out.cellK 0 rfl 1
  by_cases h : (lf : Int) ≤ i
  · have hd : Hid (decide (i ≤ (lt : Int)) = decide (inL ⟨lf, lt, lc, lm⟩ i)) := Lib.hid (by simp [inL, h])
    go_wp2
    go_ret
    exact ⟨ret_bool hd.out, M0.out.bel⟩
  · have hd : Hid (false = decide (inL ⟨lf, lt, lc, lm⟩ i)) := Lib.hid (by simp [inL, h])
    go_wp2
    go_ret
    exact ⟨ret_bool hd.out, M0.out.bel⟩
def litO (G : Option Nat) (z : DataW Unit) : DataW Unit := match G with | some r => .lit (.int .i64 (r : Int)) | none => z
def lenS : Value → Nat
  | .slice _ n _ => n
  | _ => 0
theorem rd_box1 {w : World} {g : Nat} {t : TypeId} {cs : Array Value} (h : Blk w g t cs) : Rd w cs.size (some ⟨g, 0, none⟩) 1 cs.toList := by
  refine ⟨by simp, fun _ => ⟨_, _, rfl, fun j x hx => ?_⟩⟩
  rw [h.cell]
  simpa using hx
theorem dec_last {o : List LP} (h : Dec o) {t : LP} (ht : o[o.length - 1]? = some t) (l : LP) (hl : l ∈ o) : t.to ≤ l.to := by
  obtain ⟨j, hj⟩ := List.getElem?_of_mem hl
  obtain ⟨h1, h2⟩ := List.getElem?_eq_some_iff.1 hj
  obtain ⟨h3, h4⟩ := List.getElem?_eq_some_iff.1 ht
  by_cases e : j = o.length - 1
  · subst e
    rw [hj] at ht
    rw [Option.some.inj ht]
    exact Nat.le_refl _
  · have := List.pairwise_iff_getElem.1 h j (o.length - 1) h1 h3 (by omega)
    rw [h2, h4] at this
    exact Nat.le_of_lt this
def RegOk (T : List IN) (n : Nat) : Prop := LoopsOk T ∧ JumpsOk T (loopsTo T n) n
set_option maxRecDepth 100000 in
set_option maxHeartbeats 25600000 in
theorem regions_any (A : Option Addr) (n c : Nat) (T : List IN) (w : World) (hT : Rd w 4 A n (textV T)) (hn : n ≤ 100000) (hb : ∀ (i : Nat) (x : IN), T[i]? = some x → x.op = 14 → 1 ≤ x.b ∧ x.b ≤ i) :
    Calls Tryd.prog 30 #[.slice A n c] w fun e w' => (RegOk T n ∧ ∃ L c', e = .returned (.tuple #[.slice L (loopsTo T n).length c', .bool true]) ∧ Mem w w' [] [⟨84, 4, L, (loopsTo T n).length, c', loopsV (loopsTo T n)⟩]) ∨ (¬ RegOk T n ∧ e = .returned (.tuple #[.slice none 0 0, .bool false]) ∧ Below w.heap.size w w') := by
  have htl : T.length = n := Rd.rec_len IN.size (by omega) hT
  obtain ⟨l0, hl0, hz0, hz1, hz2⟩ := info_parts region_info
  have HT := Lib.hid hT
  have HTL := Lib.hid htl
  have HBB := Lib.hid hb
  clear hT htl hb
  have hmm := @run_makeMap Tryd.prog
  go_enter Tryd.func30, Tryd.ntmps30
  go_upto_region 2 with fail
  clear hmm
  have O0 : Hid (∃ m, m ≤ 0 ∧ OwnI (w.alloc (Obj.map #[] 0)) w.heap.size m (endF T 0)) := Lib.hid ⟨0, Nat.le_refl _, World.ownsMap_made w _ _ _⟩
  have B0 : Hid (Below w.heap.size w (w.alloc (Obj.map #[] 0))) := Lib.hid (below_alloc _)
  generalize World.alloc w _ = w1 at O0 B0 ⊢
  obtain ⟨gm, hgm⟩ : ∃ gm, w.heap.size = gm := ⟨_, rfl⟩
  rw [hgm] at O0 ⊢
  have HGM := Lib.hid hgm
  clear hgm
  have R0 : Hid (RoundOk T 0) := Lib.hid (fun i x hi => by omega)
  go_wp2
  go_loopw [26] (fun v26 wr => ∃ k : Nat, k ≤ n ∧ v26 = .int .i64 k ∧ Hid (RoundOk T k) ∧ Hid (∃ m, m ≤ k ∧ OwnI wr gm m (endF T k)) ∧ Hid (Below w.heap.size w wr)) (fun v26 _ => n - (intOf v26).toNat)
  case atStart => exact ⟨0, Nat.zero_le _, rfl, R0, O0, B0⟩
  case round =>
    clear R0 O0 B0
    obtain ⟨k, hk, rfl, HR, HO, B0⟩ := hrel
    obtain ⟨m, hmk, hown⟩ := HO.out
    have HW := Lib.hid hown
    clear HO hown
    by_cases hlt : k < n
    · obtain ⟨b, o, x, rfl, hx, hbl, c0, c1, c2, c3⟩ := instr_at (HT.out.below B0.out) hlt
      have HX := Lib.hid hx
      have hbx := HBB.out k x hx
      have hk0 : (0 : Int) ≤ (k : Int) := by omega
      have hkn : (k : Int) < (n : Int) := by omega
      clear hx hbl
      by_cases h14 : x.op = 14
      · obtain ⟨h1, h2⟩ := hbx h14
        obtain ⟨b1, hb1⟩ : ∃ b1 : Nat, x.b = (b1 : Int) + 1 := ⟨(x.b - 1).toNat, by omega⟩
        have hb1n : b1 < n := by omega
        obtain ⟨b', o', y, e', hy, _, d0, d1, d2, d3⟩ := instr_at (HT.out.below B0.out) hb1n
        injection e' with e'
        injection e' with e1 e2
        subst e1 e2
        have HY := Lib.hid hy
        have H14 := Lib.hid h14
        have HB1 := Lib.hid hb1
        rw [h14] at c0
        rw [hb1] at c2
        have hb1i : (b1 : Int) < (n : Int) := by omega
        have hb10 : (0 : Int) ≤ (b1 : Int) := by omega
        have HWF : Hid (-9223372036854775808 ≤ x.b ∧ x.b ≤ 9223372036854775807) := Lib.hid ⟨by omega, by omega⟩
        have M1 := Lib.hid (((Mem.start wr).alloc 50 #[.int .i64 14, .int .i64 x.a, .int .i64 ((b1 : Int) + 1), .int .i64 x.c]).alloc 50 #[.int .i64 y.op, .int .i64 y.a, .int .i64 y.b, .int .i64 y.c])
        simp only [World.size_alloc] at M1
        clear h14 hb1 hbx hy h1 h2
        go_upto_region 7 with fail
        clear c0 c1 c2 c3 d0 d1 d2 d3
        generalize World.alloc (World.alloc wr _) _ = w2 at M1 ⊢
        generalize wr.heap.size = g6 at M1 ⊢
        have hw2 : OwnI w2 gm m (endF T k) := ownI_below HW.out M1.out.bel
        have B1 : Hid (Below w.heap.size w w2) := Lib.hid (B0.out.trans (M1.out.bel.mono B0.out.size))
        have x1 : w2.cell? ⟨g6, 1, none⟩ = some (.int .i64 x.a) := M1.out.cellK 1 rfl 1
        have x2 : w2.cell? ⟨g6, 2, none⟩ = some (.int .i64 ((b1 : Int) + 1)) := M1.out.cellK 1 rfl 2
        have y0 : w2.cell? ⟨g6 + 1, 0, none⟩ = some (.int .i64 y.op) := M1.out.cellK 0 rfl 0
        have y1 : w2.cell? ⟨g6 + 1, 1, none⟩ = some (.int .i64 y.a) := M1.out.cellK 0 rfl 1
        have HBAD : Hid (¬ (∃ y, T[(x.b - 1).toNat]? = some y ∧ y.op = 13 ∧ y.a = x.a) ∨ ¬ roundAt (T.take k) x.b = none → ¬ RegOk T n) := Lib.hid (fun h h2 => by
          have h3 := round_bad h2.1 k x (by rw [HTL.out]; omega) HX.out H14.out
          rcases h with h | h
          · exact h h3.1
          · exact h h3.2)
        have HYB : Hid (T[(x.b - 1).toNat]? = some y) := Lib.hid (by rw [HB1.out, show ((b1 : Int) + 1 - 1).toNat = b1 by omega]; exact HY.out)
        by_cases hy13 : y.op = 13
        · have z13 : (y.op != 13) = false := by simp [hy13]
          by_cases hya : y.a = x.a
          · have zya : (y.a != x.a) = false := by simp [hya]
            have HEA := Lib.hid (end_at (T := T) x.b (.lit (.int .i64 0)) HR.out (by rw [HTL.out]; omega))
            obtain ⟨H, hH⟩ : ∃ H, (roundAt (T.take k) x.b).isSome = H := ⟨_, rfl⟩
            have HX2 := Lib.hid hH
            have HH : Hid (Maps.has (endF T k) (keyI ((b1 : Int) + 1)) = H) := Lib.hid (by rw [← HB1.out, HEA.out.2, hH])
            have HKEY : Hid (keyOf Tryd.prog 3 (.int .i64 ((b1 : Int) + 1)) = some (keyI ((b1 : Int) + 1))) := Lib.hid (keyOf_int_mk Tryd.underlying3 (WalkArith.wf_i64 (by omega)))
            have HYY : Hid (∃ y, T[(x.b - 1).toNat]? = some y ∧ y.op = 13 ∧ y.a = x.a) := Lib.hid ⟨y, HYB.out, hy13, hya⟩
            clear hH hy13 hya
            go_upto_region 10 with (at_lookup; refine wpList_lookup_own_ok_int _ rfl _ _ 81 rfl 3 3 .i64 lawI Tryd.underlying81 Tryd.underlying3 (zeroI _) gm m _ rfl hw2 _ _ rfl HKEY.out ?_; intro cc hat hwc; rw [HH.out])
            clear hat hwc
            cases H with
            | true =>
              have hbad := Lib.hid (HBAD.out (.inr (fun h => by have := HX2.out; rw [h] at this; cases this)))
              clear hw2
              go_wp2
              go_ret2
              exact .inr ⟨hbad.out, rfl, B1.out⟩
            | false =>
              have HN : Hid (RoundOk T (k + 1)) := Lib.hid (fun i z hi hz ho => by
                by_cases e : i < k
                · exact HR.out i z e hz ho
                · obtain rfl : i = k := by omega
                  rw [HX.out] at hz
                  obtain rfl := Option.some.inj hz
                  refine ⟨HYY.out, ?_⟩
                  have := HX2.out
                  cases h : roundAt (T.take i) x.b with
                  | none => rfl
                  | some r => rw [h] at this; cases this)
              have HEN : Hid (endF T (k + 1) = (endF T k).put (keyI ((b1 : Int) + 1)) (.lit (.int .i64 (k : Int)))) := Lib.hid (by rw [end_round HX.out H14.out, HB1.out])
              go_wp2_with (at_mapUpdate; refine wpList_mapUpdate_own _ rfl _ _ _ 81 rfl 3 3 lawI Tryd.underlying81 _ gm m _ rfl hw2 (by unfold maxLen; omega) _ _ _ rfl rfl HKEY.out _ [] (plainElem_int Tryd.underlying3 (WalkArith.wf_i64 (by omega))) ?_; intro w3 hown3 hgrow3; have HW3 := Lib.hid hown3; have HG3 := Lib.hid hgrow3; clear hown3 hgrow3)
              clear hw2
              have HO3 : Hid (∃ m, m ≤ k + 1 ∧ OwnI w3 gm m (endF T (k + 1))) := Lib.hid ⟨m + 1, by omega, by rw [HEN.out]; exact HW3.out⟩
              have B3 : Hid (Below w.heap.size w w3) := Lib.hid (B1.out.trans (Grow.below HG3.out B1.out.size (fun g e => by injection e with e; have := HGM.out; omega)))
              go_wp2
              go_roundw
              case rel => exact ⟨k + 1, by omega, by go_num, HN, HO3, B3⟩
              case measure => simp [intOf]; omega
          · have zya : (y.a != x.a) = true := by simp [hya]
            have hbad := Lib.hid (HBAD.out (.inl (fun ⟨y', h1, _, h3⟩ => hya (by rw [HYB.out] at h1; rw [Option.some.inj h1]; exact h3))))
            clear hya hw2
            go_wp2
            go_ret2
            exact .inr ⟨hbad.out, rfl, B1.out⟩
        · have z13 : (y.op != 13) = true := by simp [hy13]
          have hbad := Lib.hid (HBAD.out (.inl (fun ⟨y', h1, h2, _⟩ => hy13 (by rw [HYB.out] at h1; rw [Option.some.inj h1]; exact h2))))
          clear hy13 hw2
          go_wp2
          go_ret2
          exact .inr ⟨hbad.out, rfl, B1.out⟩
      · have z14 : (x.op != 14) = true := by simp [h14]
        have HN : Hid (RoundOk T (k + 1)) := Lib.hid (fun i z hi hz ho => by
          by_cases e : i < k
          · exact HR.out i z e hz ho
          · obtain rfl : i = k := by omega
            rw [HX.out] at hz
            obtain rfl := Option.some.inj hz
            exact absurd ho h14)
        have HO3 : Hid (∃ m, m ≤ k + 1 ∧ OwnI (wr.alloc (.cells #[.int .i64 x.op, .int .i64 x.a, .int .i64 x.b, .int .i64 x.c] 50)) gm m (endF T (k + 1))) := Lib.hid ⟨m, by omega, by rw [end_same HX.out h14]; exact ownI_below HW.out (below_alloc _)⟩
        have B3 : Hid (Below w.heap.size w (wr.alloc (.cells #[.int .i64 x.op, .int .i64 x.a, .int .i64 x.b, .int .i64 x.c] 50))) := Lib.hid (B0.out.trans ((below_alloc _).mono B0.out.size))
        clear h14 hbx
        go_wp2
        go_roundw
        case rel => exact ⟨k + 1, by omega, by go_num, HN, HO3, B3⟩
        case measure => simp [intOf]; omega
    · obtain rfl : k = n := by omega
      have hkk : ¬ (k : Int) < (k : Int) := by omega
      have HRN : Hid (RoundOk T T.length) := Lib.hid (by rw [HTL.out]; exact HR.out)
      have HEND : Hid (∀ (e : Int) (z : DataW Unit), (endF T k).atKey (keyI e) z = litO (roundAt T e) z ∧ Maps.has (endF T k) (keyI e) = (roundAt T e).isSome) := Lib.hid (fun e z => by
        have := end_at (T := T) e z HR.out (by rw [HTL.out]; exact Nat.le_refl _)
        rw [show T.take k = T from List.take_of_length_le (by rw [HTL.out]; exact Nat.le_refl _)] at this
        exact this)
      obtain ⟨wb, hwb⟩ : ∃ wb : World, wb = wr := ⟨_, rfl⟩
      subst hwb
      have N0 : Hid (Mem wb wb [] [⟨84, 4, none, 0, 0, loopsV []⟩, ⟨84, 4, none, 0, 0, loopsV (loopsTo T 0)⟩]) := Lib.hid (((Mem.start wb).nilO 84 4).nilO 84 4)
      go_wp2
      go_loopw [10, 11, 65] (fun v10 v11 v65 wr => ∃ (i mo c10 c11 : Nat) (A10 A11 : Option Addr) (O : List LP), i ≤ k ∧ mo ≤ i ∧ v65 = .int .i64 i ∧ v10 = .slice A10 (loopsTo T i).length c10 ∧ v11 = .slice A11 mo c11 ∧ Hid (Inv T i O) ∧ Hid (Mem wb wr [] [⟨84, 4, A11, mo, c11, loopsV O⟩, ⟨84, 4, A10, (loopsTo T i).length, c10, loopsV (loopsTo T i)⟩])) (fun _ _ v65 _ => k - (intOf v65).toNat)
      case atStart => exact ⟨0, 0, 0, 0, none, none, [], Nat.zero_le _, Nat.zero_le _, rfl, rfl, rfl, Lib.hid (inv_zero T), N0⟩
      case round =>
        clear N0
        obtain ⟨i, mo, c10, c11, A10, A11, O, hi, hmo, rfl, rfl, rfl, HI, N0⟩ := hrel
        have HOL : Hid (O.length = mo) := Lib.hid (Rd.rec_len LP.size (by omega) (N0.out.rdO 0 rfl))
        have HBW : Hid (∀ w', Below wb.heap.size wb w' → Below w.heap.size w w') := Lib.hid fun w' hb => B0.out.trans (hb.mono B0.out.size)
        have hml := loops_len (T := T) i
        obtain ⟨ma, hma⟩ : ∃ ma, (loopsTo T i).length = ma := ⟨_, rfl⟩
        rw [hma] at N0 hml ⊢
        have HMA := Lib.hid hma
        clear hma
        by_cases hlt : i < k
        · obtain ⟨b, o, x, rfl, hx, hbl, c0, c1, c2, c3⟩ := instr_at (HT.out.below (HBW.out _ N0.out.bel)) hlt
          have HX := Lib.hid hx
          have hi0 : (0 : Int) ≤ (i : Int) := by omega
          have hik : (i : Int) < (k : Int) := by omega
          have M1 := Lib.hid (N0.out.alloc 50 #[.int .i64 x.op, .int .i64 x.a, .int .i64 x.b, .int .i64 x.c])
          go_upto_block 4 with (fail)
          clear hx hbl c0 c1 c2 c3 N0
          generalize World.alloc _ _ = w3 at M1 ⊢
          generalize wr.heap.size = g13 at M1 ⊢
          go_cut [11] from 70 to 88 (fun v11 wc => ∃ (A12 : Option Addr) (q : Nat), q ≤ i ∧ v11 = .slice A12 q c11 ∧ w3 = wc ∧ Hid ((openAt T i i).length = q) ∧ Hid (Mem wb w3 [⟨g13, 50, #[.int .i64 x.op, .int .i64 x.a, .int .i64 x.b, .int .i64 x.c]⟩] [⟨84, 4, A12, q, c11, loopsV (openAt T i i)⟩, ⟨84, 4, A10, ma, c10, loopsV (loopsTo T i)⟩]))
          case first =>
            have M2 : Hid (Mem wb w3 [⟨g13, 50, #[.int .i64 x.op, .int .i64 x.a, .int .i64 x.b, .int .i64 x.c]⟩] [⟨84, 4, A11, mo, c11, loopsV (O.take mo)⟩, ⟨84, 4, A10, ma, c10, loopsV (loopsTo T i)⟩]) := Lib.hid (by
              rw [show O.take mo = O from List.take_of_length_le (by rw [HOL.out]; exact Nat.le_refl _)]
              exact M1.out)
            clear M1
            have HCAP : Hid (mo ≤ c11) := (M2.out.shapeO 0 rfl).1
            go_wp2
            go_loopw [11] (fun v11 wr => ∃ j : Nat, j ≤ mo ∧ v11 = .slice A11 j c11 ∧ wr = w3 ∧ Hid (∀ l ∈ O.drop j, l.to < i) ∧ Hid (Mem wb w3 [⟨g13, 50, #[.int .i64 x.op, .int .i64 x.a, .int .i64 x.b, .int .i64 x.c]⟩] [⟨84, 4, A11, j, c11, loopsV (O.take j)⟩, ⟨84, 4, A10, ma, c10, loopsV (loopsTo T i)⟩])) (fun v11 _ => lenS v11)
            case atStart => exact ⟨mo, Nat.le_refl _, rfl, rfl, Lib.hid (by rw [List.drop_of_length_le (by rw [HOL.out]; exact Nat.le_refl _)]; intro l hl; cases hl), M2⟩
            case round =>
              clear M2
              obtain ⟨j, hj, rfl, rfl, HLOW, M2⟩ := hrel
              by_cases hj0 : j = 0
              · subst hj0
                have HOP : Hid (openAt T i i = []) := Lib.hid (by
                  have h1 := open_pop (j := 0) HI.out.dec HLOW.out (fun l hl => by simp at hl)
                  rw [HI.out.now] at h1
                  rw [← h1]
                  rfl)
                go_wp2
                go_meet
                exact ⟨A11, 0, Nat.zero_le _, rfl, rfl, Lib.hid (by rw [HOP.out]; rfl), by rw [HOP.out]; exact M2⟩
              · obtain ⟨j', rfl⟩ : ∃ j', j = j' + 1 := ⟨j - 1, by omega⟩
                have htop : O[j']? = some (O[j']'(by rw [HOL.out]; omega)) := List.getElem?_eq_getElem _
                obtain ⟨t, htt⟩ : ∃ t, O[j']'(by rw [HOL.out]; omega) = t := ⟨_, rfl⟩
                rw [htt] at htop
                clear htt
                obtain ⟨b4, o4, t', rfl, ht', _, e0, e1, e2, e3⟩ := loop_at (M2.out.rdO 0 rfl) (show j' < j' + 1 by omega)
                rw [List.getElem?_take_of_lt (by omega), htop] at ht'
                obtain rfl := Option.some.inj ht'
                have HTOP := Lib.hid htop
                clear htop ht'
                have hcc : j' + 1 ≤ c11 := by have := HCAP.out; omega
                have hjk : j' + 1 ≤ 100000 := by omega
                by_cases hlow : t.to < i
                · have hlow2 : (t.to : Int) < (i : Int) := by omega
                  have HN : Hid (∀ l ∈ O.drop j', l.to < i) := Lib.hid (fun l hl => by
                    rw [List.drop_eq_getElem_cons (by rw [HOL.out]; omega)] at hl
                    rcases List.mem_cons.1 hl with h | h
                    · have := HTOP.out
                      rw [List.getElem?_eq_getElem (by rw [HOL.out]; omega)] at this
                      rw [h, Option.some.inj this]
                      exact hlow
                    · exact HLOW.out l h)
                  have MN : Hid (Mem wb wr [⟨g13, 50, #[.int .i64 x.op, .int .i64 x.a, .int .i64 x.b, .int .i64 x.c]⟩] [⟨84, 4, some ⟨b4, o4, none⟩, j', c11, loopsV (O.take j')⟩, ⟨84, 4, A10, ma, c10, loopsV (loopsTo T i)⟩]) := Lib.hid (by
                    have h := Mem.cut M2.out (show j' ≤ j' + 1 by omega)
                    rw [loops_take, List.take_take, Nat.min_eq_left (by omega)] at h
                    exact h)
                  clear M2 HLOW e0 e2 e3
                  go_wp2
                  go_roundw
                  case rel => exact ⟨j', by omega, by go_num, trivial, HN, MN⟩
                  case measure => simp [lenS]
                · have hlow2 : ¬ (t.to : Int) < (i : Int) := by omega
                  have HOP : Hid (O.take (j' + 1) = openAt T i i) := Lib.hid (by
                    rw [← HI.out.now]
                    refine open_pop HI.out.dec HLOW.out fun l hl => ?_
                    rw [take_snoc HTOP.out, List.getLast?_concat] at hl
                    rw [← Option.some.inj hl]
                    omega)
                  have HQ : Hid ((openAt T i i).length = j' + 1) := Lib.hid (by rw [← HOP.out, List.length_take, HOL.out]; omega)
                  rw [HOP.out] at M2
                  clear HLOW e0 e2 e3
                  go_wp2
                  go_meet
                  exact ⟨_, j' + 1, by omega, rfl, rfl, HQ, M2⟩
          case rest =>
            clear M1
            obtain ⟨A12, q, hqi, rfl, hwc, HQ, M2⟩ := hcut
            subst hwc
            have HI2 := Lib.hid (inv_pop HI.out)
            clear HI
            have x0 : w3.cell? ⟨g13, 0, none⟩ = some (.int .i64 x.op) := M2.out.cellK 0 rfl 0
            by_cases h13 : x.op = 13
            · have H13 := Lib.hid h13
              rw [h13] at x0
              clear h13
              have x1 : w3.cell? ⟨g13, 1, none⟩ = some (.int .i64 x.a) := M2.out.cellK 0 rfl 1
              have x2 : w3.cell? ⟨g13, 2, none⟩ = some (.int .i64 x.b) := M2.out.cellK 0 rfl 2
              have hw2 : OwnI w3 gm m (endF T k) := ownI_below HW.out M2.out.bel
              obtain ⟨G, hG⟩ : ∃ G, roundAt T ((i : Int) + 1) = G := ⟨_, rfl⟩
              have HG := Lib.hid hG
              have HH : Hid (Maps.has (endF T k) (keyI ((i : Int) + 1)) = G.isSome) := Lib.hid (by rw [← hG]; exact (HEND.out _ (.lit (.int .i64 0))).2)
              have HKEY : Hid (keyOf Tryd.prog 3 (.int .i64 ((i : Int) + 1)) = some (keyI ((i : Int) + 1))) := Lib.hid (keyOf_int_mk Tryd.underlying3 (WalkArith.wf_i64 (by omega)))
              have HAT : Hid ((endF T k).atKey (keyI ((i : Int) + 1)) (.lit (.int .i64 0)) = litO G (.lit (.int .i64 0))) := Lib.hid (by rw [← hG]; exact (HEND.out _ (.lit (.int .i64 0))).1)
              clear hG
              cases G with
              | none =>
                have hbad : Hid (¬ RegOk T k) := Lib.hid (fun h => enter_none HX.out H13.out HG.out h.1)
                go_upto_region 22 with (at_lookup; refine wpList_lookup_own_ok_int _ rfl _ _ 81 rfl 3 3 .i64 lawI Tryd.underlying81 Tryd.underlying3 (zeroI _) gm m _ rfl hw2 _ _ rfl HKEY.out ?_; intro cc hat hwc; rw [HH.out])
                clear hat hwc hw2
                have BF := Lib.hid (HBW.out _ (M2.out.alloc 84 #[.int .i64 ((i : Int) + 1), .int .i64 cc, .int .i64 x.a, .int .i64 x.b]).bel)
                go_wp2
                go_ret2
                exact .inr ⟨hbad.out, rfl, BF.out⟩
              | some r =>
                obtain ⟨y, hy, hyo, hyb, hrk⟩ := round_some HG.out
                have hir : i + 1 ≤ r := by have := (HBB.out r y hy hyo).2; omega
                rw [HTL.out] at hrk
                clear hy hyo hyb
                go_upto_region 22 with (at_lookup; refine wpList_lookup_own_ok_int _ rfl _ _ 81 rfl 3 3 .i64 lawI Tryd.underlying81 Tryd.underlying3 (zeroI _) gm m _ rfl hw2 _ _ rfl HKEY.out ?_; intro cc hat hwc; rw [HH.out])
                have hcc : cc = (r : Int) := by
                  have h1 : (endF T k).atKey (keyI ((i : Int) + 1)) (.lit (.int .i64 0)) = .lit (.int .i64 (r : Int)) := HAT.out
                  exact (Lit.int.inj (DataW.lit.inj (hat.symm.trans h1))).2
                subst hcc
                clear hat hwc hw2
                have M3 := Lib.hid (M2.out.alloc 84 #[.int .i64 ((i : Int) + 1), .int .i64 (r : Int), .int .i64 x.a, .int .i64 x.b])
                go_upto_region 23 with fail
                clear M2 x0 x1 x2
                generalize World.alloc _ _ = w4 at M3 ⊢
                generalize w3.heap.size = g16 at M3 ⊢
                go_cut [124] from 107 to 124 (fun v wz => ∃ zb : Bool, v = .bool zb ∧ w4 = wz ∧ Hid ((zb = true → ∃ l ∈ openAt T i i, ¬ r < l.to) ∧ (zb = false → ∀ l ∈ openAt T i i, r < l.to)))
                case first =>
                  by_cases hq0 : q = 0
                  · subst hq0
                    have HE : Hid (openAt T i i = []) := Lib.hid (List.eq_nil_of_length_eq_zero HQ.out)
                    go_wp2
                    go_meet
                    exact ⟨false, rfl, rfl, Lib.hid ⟨(fun h => by cases h), fun _ l hl => by rw [HE.out] at hl; cases hl⟩⟩
                  · obtain ⟨q', rfl⟩ : ∃ q', q = q' + 1 := ⟨q - 1, by omega⟩
                    obtain ⟨b4, o4, t, rfl, ht, _, e0, e1, e2, e3⟩ := loop_at (M3.out.rdO 0 rfl) (show q' < q' + 1 by omega)
                    have HLE : Hid (∀ l ∈ openAt T i i, t.to ≤ l.to) := Lib.hid (fun l hl => dec_last HI2.out.dec (by rw [HQ.out]; exact ht) l hl)
                    have HTM := Lib.hid (List.mem_of_getElem? ht)
                    have hqk : q' + 1 ≤ 100000 := by omega
                    clear ht e0 e2 e3
                    by_cases hge : t.to ≤ r
                    · have hge2 : (t.to : Int) ≤ (r : Int) := by omega
                      go_wp2
                      go_meet
                      exact ⟨true, rfl, rfl, Lib.hid ⟨fun _ => ⟨t, HTM.out, by omega⟩, (fun h => by cases h)⟩⟩
                    · have hge2 : ¬ (t.to : Int) ≤ (r : Int) := by omega
                      go_wp2
                      go_meet
                      exact ⟨false, rfl, rfl, Lib.hid ⟨(fun h => by cases h), fun _ l hl => by have := HLE.out l hl; omega⟩⟩
                case rest =>
                  obtain ⟨zb, rfl, hwz, HZ⟩ := hcut
                  subst hwz
                  cases zb
                  · have HLT := Lib.hid (HZ.out.2 rfl)
                    clear HZ
                    have MK : Hid (∃ Ks, Mem wb w4 (⟨g16, 84, #[.int .i64 ((i : Int) + 1), .int .i64 (r : Int), .int .i64 x.a, .int .i64 x.b]⟩ :: Ks) [⟨84, 4, A12, q, c11, loopsV (openAt T i i)⟩, ⟨84, 4, A10, ma, c10, loopsV (loopsTo T i)⟩]) := Lib.hid ⟨_, M3.out⟩
                    clear M3
                    go_wp2
                    go_loopw [127] (fun v127 wr => ∃ j : Nat, j ≤ q ∧ v127 = .int .i64 j ∧ Hid (∀ (j' : Nat) (l : LP), j' < j → (openAt T i i)[j']? = some l → l.counter ≠ x.a) ∧ Hid (∃ Ks, Mem wb wr (⟨g16, 84, #[.int .i64 ((i : Int) + 1), .int .i64 (r : Int), .int .i64 x.a, .int .i64 x.b]⟩ :: Ks) [⟨84, 4, A12, q, c11, loopsV (openAt T i i)⟩, ⟨84, 4, A10, ma, c10, loopsV (loopsTo T i)⟩])) (fun v127 _ => q - (intOf v127).toNat)
                    case atStart => exact ⟨0, Nat.zero_le _, rfl, Lib.hid (fun j' l h => by omega), MK⟩
                    case round =>
                      clear MK
                      obtain ⟨j, hj, rfl, HC, MK⟩ := hrel
                      obtain ⟨Ks, M3⟩ := MK.out
                      have M3 := Lib.hid M3
                      clear MK
                      by_cases hjq : j < q
                      · obtain ⟨b4, o4, l, rfl, hl, _, e0, e1, e2, e3⟩ := loop_at (M3.out.rdO 0 rfl) hjq
                        have HL := Lib.hid hl
                        have hj0 : (0 : Int) ≤ (j : Int) := by omega
                        have hjq2 : (j : Int) < (q : Int) := by omega
                        have M4 := Lib.hid (M3.out.alloc 84 #[.int .i64 l.fr, .int .i64 l.to, .int .i64 l.counter, .int .i64 l.times])
                        clear hl
                        go_upto_region 28 with fail
                        clear e0 e1 e2 e3 M3
                        generalize World.alloc _ _ = w5 at M4 ⊢
                        generalize wr.heap.size = g18 at M4 ⊢
                        have y2 : w5.cell? ⟨g18, 2, none⟩ = some (.int .i64 l.counter) := M4.out.cellK 0 rfl 2
                        have y2' : w5.cell? ⟨g16, 2, none⟩ = some (.int .i64 x.a) := M4.out.cellK 1 rfl 2
                        by_cases hca : l.counter = x.a
                        · have hca2 : (l.counter == x.a) = true := by simp [hca]
                          have hbad : Hid (¬ RegOk T k) := Lib.hid (fun h => inv_bad HI2.out HX.out H13.out HG.out (List.mem_of_getElem? HL.out) (fun h2 => h2.2 hca) h.1)
                          have BF := Lib.hid (HBW.out _ M4.out.bel)
                          clear hca M4
                          go_wp2
                          go_ret2
                          exact .inr ⟨hbad.out, rfl, BF.out⟩
                        · have hca2 : (l.counter == x.a) = false := by simp [hca]
                          have HN : Hid (∀ (j' : Nat) (l : LP), j' < j + 1 → (openAt T i i)[j']? = some l → l.counter ≠ x.a) := Lib.hid (fun j' l' hj' hl' => by
                            by_cases e : j' < j
                            · exact HC.out j' l' e hl'
                            · obtain rfl : j' = j := by omega
                              rw [HL.out] at hl'
                              obtain rfl := Option.some.inj hl'
                              exact hca)
                          have MN : Hid (∃ Ks, Mem wb w5 (⟨g16, 84, #[.int .i64 ((i : Int) + 1), .int .i64 (r : Int), .int .i64 x.a, .int .i64 x.b]⟩ :: Ks) [⟨84, 4, some ⟨b4, o4, none⟩, q, c11, loopsV (openAt T i i)⟩, ⟨84, 4, A10, ma, c10, loopsV (loopsTo T i)⟩]) := Lib.hid ⟨_, M4.out.upK 1 rfl⟩
                          clear hca M4
                          go_wp2
                          go_roundw
                          case rel => exact ⟨j + 1, by omega, by go_num, HN, MN⟩
                          case measure => simp [intOf]; omega
                      · obtain rfl : j = q := by omega
                        have hjj : ¬ (j : Int) < (j : Int) := by omega
                        have HNW := Lib.hid (inv_new HI2.out HX.out H13.out HG.out hir (fun l hl => by
                          obtain ⟨j', hj'⟩ := List.getElem?_of_mem hl
                          exact ⟨HLT.out l hl, HC.out j' l (by rw [← HQ.out]; exact (List.getElem?_eq_some_iff.1 hj').1) hj'⟩))
                        go_upto_region 31 with fail
                        have E0 := Lib.hid M3.out.drew
                        have sE : wr.drew.cell? ⟨g16, 0, none⟩ = some (.int .i64 ((i : Int) + 1)) ∧ wr.drew.cell? ⟨g16, 1, none⟩ = some (.int .i64 (r : Int)) ∧ wr.drew.cell? ⟨g16, 2, none⟩ = some (.int .i64 x.a) ∧ wr.drew.cell? ⟨g16, 3, none⟩ = some (.int .i64 x.b) := ⟨E0.out.cellK 0 rfl 0, E0.out.cellK 0 rfl 1, E0.out.cellK 0 rfl 2, E0.out.cellK 0 rfl 3⟩
                        clear M3
                        refine wp_region_held_drew (S := fun w' => w'.cell? ⟨g16, 0, none⟩ = some (.int .i64 ((i : Int) + 1)) ∧ w'.cell? ⟨g16, 1, none⟩ = some (.int .i64 (r : Int)) ∧ w'.cell? ⟨g16, 2, none⟩ = some (.int .i64 x.a) ∧ w'.cell? ⟨g16, 3, none⟩ = some (.int .i64 x.b)) (by kernel_rfl) ?_ (fun hHeld => ?_)
                        · exact sE
                        refine wpAnyH_take (i := 0) (v := ?_) rfl (by kernel_rfl) (by kernel_rfl) (by kernel_rfl) (fun _ _ _ h => h) (Or.inl ⟨by rfl, ?_⟩) (by assumption) ?_
                        rotate_left
                        · intro w' hSw
                          (try dsimp only at hSw)
                          go_simp
                          try with_reducible rfl
                        try simp only [Act.put, List.getElem_toArray, List.getElem_cons_zero, List.setIfInBounds_toArray, List.set_cons_zero, List.set_cons_succ]
                        refine wpAnyH_take (i := 1) (v := ?_) rfl (by kernel_rfl) (by kernel_rfl) (by kernel_rfl) (fun _ _ _ h => h) (Or.inl ⟨by rfl, ?_⟩) (by assumption) ?_
                        rotate_left
                        · intro w' hSw
                          (try dsimp only at hSw)
                          go_simp
                          try with_reducible rfl
                        try simp only [Act.put, List.getElem_toArray, List.getElem_cons_zero, List.getElem_cons_succ, List.setIfInBounds_toArray, List.set_cons_zero, List.set_cons_succ]
                        refine wpAnyH_take (i := 4) (v := ?_) rfl (by kernel_rfl) (by kernel_rfl) (by kernel_rfl) (fun _ _ _ h => h) (Or.inl ⟨by rfl, ?_⟩) (by assumption) ?_
                        rotate_left
                        · intro w' hSw
                          (try dsimp only at hSw)
                          go_simp
                          try with_reducible rfl
                        try simp only [Act.put, List.getElem_toArray, List.getElem_cons_zero, List.getElem_cons_succ, List.setIfInBounds_toArray, List.set_cons_zero, List.set_cons_succ]
                        refine wpAnyH_take (i := 5) (v := ?_) rfl (by kernel_rfl) (by kernel_rfl) (by kernel_rfl) (fun _ _ _ h => h) (Or.inl ⟨by rfl, ?_⟩) (by assumption) ?_
                        rotate_left
                        · intro w' hSw
                          (try dsimp only at hSw)
                          go_simp
                          try with_reducible rfl
                        try simp only [Act.put, List.getElem_toArray, List.getElem_cons_zero, List.getElem_cons_succ, List.setIfInBounds_toArray, List.set_cons_zero, List.set_cons_succ]
                        refine wpAnyH_ready (rs := [2, 6]) (by kernel_rfl) (by simp) ?_
                        refine (AllReadyH.cons rfl (fun K hK => ?_) (AllReadyH.cons rfl (fun K hK => ?_) AllReadyH.nil))
                        · have HKK := Lib.hid hK
                          clear hK
                          go_simp
                          have E1 := Lib.hid (E0.out.alloc 84 #[.int .i64 ((i : Int) + 1), .int .i64 (r : Int), .int .i64 x.a, .int .i64 x.b])
                          try simp only [World.size_alloc] at E1
                          refine HKK.out _ _ ⟨E1.out.cellK 1 rfl 0, E1.out.cellK 1 rfl 1, E1.out.cellK 1 rfl 2, E1.out.cellK 1 rfl 3⟩ (fun hHeld => ?_)
                          clear HKK K
                          try simp only [Act.put, List.getElem_toArray, List.getElem_cons_zero, List.getElem_cons_succ, List.setIfInBounds_toArray, List.set_cons_zero, List.set_cons_succ]
                          refine wpAnyH_ready (rs := [3, 6]) (by kernel_rfl) (by simp) ?_
                          refine (AllReadyH.cons rfl (fun K hK => ?_) (AllReadyH.cons rfl (fun K hK => ?_) AllReadyH.nil))
                          · have HKK := Lib.hid hK
                            clear hK
                            refine wp_append_sl _ (.tmp 137) (.tmp 139) 70 rfl wb.heap.size 84 l0 _ 4 32 Tryd.underlying70 hl0 hz0 hz1 hz2 rfl (by omega) (.slice A10 ma c10) ma (loopsV (loopsTo T i)) rfl (E1.out.rowO 1 rfl) _ 1 1 [.int .i64 ((i : Int) + 1), .int .i64 (r : Int), .int .i64 x.a, .int .i64 x.b] rfl (rd_box1 (E1.out.blkK 0 rfl)) (by simp [Value.oneCell']) (by unfold maxLen; omega) (by omega) E1.out.base (ma + 1) rfl ?_
                            intro A20 c20 w20 ho20 hg20 hat20
                            have E2 := Lib.hid (((E1.out.upO 1 rfl).grow hg20 ho20 hat20).upO 1 rfl)
                            clear ho20 hg20 hat20
                            refine HKK.out _ _ ⟨E2.out.cellK 1 rfl 0, E2.out.cellK 1 rfl 1, E2.out.cellK 1 rfl 2, E2.out.cellK 1 rfl 3⟩ (fun hHeld => ?_)
                            clear HKK K
                            try simp only [Act.put, List.getElem_toArray, List.getElem_cons_zero, List.getElem_cons_succ, List.setIfInBounds_toArray, List.set_cons_zero, List.set_cons_succ]
                            refine wpAnyH_ready (rs := [6]) (by kernel_rfl) (by simp) ?_
                            refine (AllReadyH.cons rfl (fun K hK => ?_) AllReadyH.nil)
                            have HKK := Lib.hid hK
                            clear hK
                            go_simp
                            have E3 := Lib.hid (E2.out.alloc 84 #[.int .i64 ((i : Int) + 1), .int .i64 (r : Int), .int .i64 x.a, .int .i64 x.b])
                            try simp only [World.size_alloc] at E3
                            refine HKK.out _ _ ⟨E3.out.cellK 2 rfl 0, E3.out.cellK 2 rfl 1, E3.out.cellK 2 rfl 2, E3.out.cellK 2 rfl 3⟩ (fun hHeld => ?_)
                            clear HKK K
                            try simp only [Act.put, List.getElem_toArray, List.getElem_cons_zero, List.getElem_cons_succ, List.setIfInBounds_toArray, List.set_cons_zero, List.set_cons_succ]
                            refine wpAnyH_ready (rs := [7]) (by kernel_rfl) (by simp) ?_
                            refine (AllReadyH.cons rfl (fun K hK => ?_) AllReadyH.nil)
                            have HKK := Lib.hid hK
                            clear hK
                            refine wp_append_sl _ (.tmp 141) (.tmp 143) 70 rfl wb.heap.size 84 l0 _ 4 32 Tryd.underlying70 hl0 hz0 hz1 hz2 rfl (by omega) (.slice A12 j c11) j (loopsV (openAt T i i)) rfl (E3.out.rowO 0 rfl) _ 1 1 [.int .i64 ((i : Int) + 1), .int .i64 (r : Int), .int .i64 x.a, .int .i64 x.b] rfl (rd_box1 (E3.out.blkK 0 rfl)) (by simp [Value.oneCell']) (by unfold maxLen; omega) (by omega) E3.out.base (j + 1) rfl ?_
                            intro A21 c21 w21 ho21 hg21 hat21
                            have E4 := Lib.hid (E3.out.grow hg21 ho21 hat21)
                            clear ho21 hg21 hat21
                            refine HKK.out _ _ ⟨E4.out.cellK 2 rfl 0, E4.out.cellK 2 rfl 1, E4.out.cellK 2 rfl 2, E4.out.cellK 2 rfl 3⟩ (fun hHeld => ?_)
                            clear HKK K
                            try simp only [Act.put, List.getElem_toArray, List.getElem_cons_zero, List.getElem_cons_succ, List.setIfInBounds_toArray, List.set_cons_zero, List.set_cons_succ]
                            refine wpAnyH_take (i := 8) (v := ?_) rfl (by kernel_rfl) (by kernel_rfl) (by kernel_rfl) (fun _ _ _ h => h) (Or.inl ⟨by rfl, ?_⟩) (by assumption) ?_
                            rotate_left
                            · intro w' hSw
                              (try dsimp only at hSw)
                              go_simp
                              try with_reducible rfl
                            try simp only [Act.put, List.getElem_toArray, List.getElem_cons_zero, List.getElem_cons_succ, List.setIfInBounds_toArray, List.set_cons_zero, List.set_cons_succ]
                            refine wpAnyH_take (i := 9) (v := ?_) rfl (by kernel_rfl) (by kernel_rfl) (by kernel_rfl) (fun _ _ _ h => h) (Or.inl ⟨by rfl, ?_⟩) (by assumption) ?_
                            rotate_left
                            · intro w' hSw
                              (try dsimp only at hSw)
                              go_simp
                              try with_reducible rfl
                            try simp only [Act.put, List.getElem_toArray, List.getElem_cons_zero, List.getElem_cons_succ, List.setIfInBounds_toArray, List.set_cons_zero, List.set_cons_succ]
                            refine wpAnyH_done (by kernel_rfl) ?_ _
                            have HS := Lib.hid HNW.out.2
                            have MN : Hid (Mem wb w21 [] [⟨84, 4, A21, j + 1, c21, loopsV (openAt T i i ++ [⟨i + 1, r, x.a, x.b⟩])⟩, ⟨84, 4, A20, ma + 1, c20, loopsV (loopsTo T (i + 1))⟩]) := Lib.hid (by
                              rw [HS.out, ← loopsV_snoc, ← loopsV_snoc]
                              have h := E4.out.rows
                              simpa [LP.cs] using h)
                            have HLN : Hid ((loopsTo T (i + 1)).length = ma + 1) := Lib.hid (by rw [HS.out, List.length_append, HMA.out]; rfl)
                            clear hHeld
                            go_wp2
                            go_roundw
                            case rel => exact ⟨i + 1, j + 1, c20, c21, A20, A21, _, by omega, by omega, by go_num, by rw [HLN.out], rfl, Lib.hid HNW.out.1, by rw [HLN.out]; exact MN⟩
                            case measure => simp [intOf]; omega
                          · have HKK := Lib.hid hK
                            clear hK
                            go_simp
                            have E2 := Lib.hid (E1.out.alloc 84 #[.int .i64 ((i : Int) + 1), .int .i64 (r : Int), .int .i64 x.a, .int .i64 x.b])
                            try simp only [World.size_alloc] at E2
                            refine HKK.out _ _ ⟨E2.out.cellK 2 rfl 0, E2.out.cellK 2 rfl 1, E2.out.cellK 2 rfl 2, E2.out.cellK 2 rfl 3⟩ (fun hHeld => ?_)
                            clear HKK K
                            try simp only [Act.put, List.getElem_toArray, List.getElem_cons_zero, List.getElem_cons_succ, List.setIfInBounds_toArray, List.set_cons_zero, List.set_cons_succ]
                            refine wpAnyH_ready (rs := [3]) (by kernel_rfl) (by simp) ?_
                            refine (AllReadyH.cons rfl (fun K hK => ?_) AllReadyH.nil)
                            have HKK := Lib.hid hK
                            clear hK
                            refine wp_append_sl _ (.tmp 137) (.tmp 139) 70 rfl wb.heap.size 84 l0 _ 4 32 Tryd.underlying70 hl0 hz0 hz1 hz2 rfl (by omega) (.slice A10 ma c10) ma (loopsV (loopsTo T i)) rfl (E2.out.rowO 1 rfl) _ 1 1 [.int .i64 ((i : Int) + 1), .int .i64 (r : Int), .int .i64 x.a, .int .i64 x.b] rfl (rd_box1 (E2.out.blkK 1 rfl)) (by simp [Value.oneCell']) (by unfold maxLen; omega) (by omega) E2.out.base (ma + 1) rfl ?_
                            intro A20 c20 w20 ho20 hg20 hat20
                            have E3 := Lib.hid (((E2.out.upO 1 rfl).grow hg20 ho20 hat20).upO 1 rfl)
                            clear ho20 hg20 hat20
                            refine HKK.out _ _ ⟨E3.out.cellK 2 rfl 0, E3.out.cellK 2 rfl 1, E3.out.cellK 2 rfl 2, E3.out.cellK 2 rfl 3⟩ (fun hHeld => ?_)
                            clear HKK K
                            try simp only [Act.put, List.getElem_toArray, List.getElem_cons_zero, List.getElem_cons_succ, List.setIfInBounds_toArray, List.set_cons_zero, List.set_cons_succ]
                            refine wpAnyH_ready (rs := [7]) (by kernel_rfl) (by simp) ?_
                            refine (AllReadyH.cons rfl (fun K hK => ?_) AllReadyH.nil)
                            have HKK := Lib.hid hK
                            clear hK
                            refine wp_append_sl _ (.tmp 141) (.tmp 143) 70 rfl wb.heap.size 84 l0 _ 4 32 Tryd.underlying70 hl0 hz0 hz1 hz2 rfl (by omega) (.slice A12 j c11) j (loopsV (openAt T i i)) rfl (E3.out.rowO 0 rfl) _ 1 1 [.int .i64 ((i : Int) + 1), .int .i64 (r : Int), .int .i64 x.a, .int .i64 x.b] rfl (rd_box1 (E3.out.blkK 0 rfl)) (by simp [Value.oneCell']) (by unfold maxLen; omega) (by omega) E3.out.base (j + 1) rfl ?_
                            intro A21 c21 w21 ho21 hg21 hat21
                            have E4 := Lib.hid (E3.out.grow hg21 ho21 hat21)
                            clear ho21 hg21 hat21
                            refine HKK.out _ _ ⟨E4.out.cellK 2 rfl 0, E4.out.cellK 2 rfl 1, E4.out.cellK 2 rfl 2, E4.out.cellK 2 rfl 3⟩ (fun hHeld => ?_)
                            clear HKK K
                            try simp only [Act.put, List.getElem_toArray, List.getElem_cons_zero, List.getElem_cons_succ, List.setIfInBounds_toArray, List.set_cons_zero, List.set_cons_succ]
                            refine wpAnyH_take (i := 8) (v := ?_) rfl (by kernel_rfl) (by kernel_rfl) (by kernel_rfl) (fun _ _ _ h => h) (Or.inl ⟨by rfl, ?_⟩) (by assumption) ?_
                            rotate_left
                            · intro w' hSw
                              (try dsimp only at hSw)
                              go_simp
                              try with_reducible rfl
                            try simp only [Act.put, List.getElem_toArray, List.getElem_cons_zero, List.getElem_cons_succ, List.setIfInBounds_toArray, List.set_cons_zero, List.set_cons_succ]
                            refine wpAnyH_take (i := 9) (v := ?_) rfl (by kernel_rfl) (by kernel_rfl) (by kernel_rfl) (fun _ _ _ h => h) (Or.inl ⟨by rfl, ?_⟩) (by assumption) ?_
                            rotate_left
                            · intro w' hSw
                              (try dsimp only at hSw)
                              go_simp
                              try with_reducible rfl
                            try simp only [Act.put, List.getElem_toArray, List.getElem_cons_zero, List.getElem_cons_succ, List.setIfInBounds_toArray, List.set_cons_zero, List.set_cons_succ]
                            refine wpAnyH_done (by kernel_rfl) ?_ _
                            have HS := Lib.hid HNW.out.2
                            have MN : Hid (Mem wb w21 [] [⟨84, 4, A21, j + 1, c21, loopsV (openAt T i i ++ [⟨i + 1, r, x.a, x.b⟩])⟩, ⟨84, 4, A20, ma + 1, c20, loopsV (loopsTo T (i + 1))⟩]) := Lib.hid (by
                              rw [HS.out, ← loopsV_snoc, ← loopsV_snoc]
                              have h := E4.out.rows
                              simpa [LP.cs] using h)
                            have HLN : Hid ((loopsTo T (i + 1)).length = ma + 1) := Lib.hid (by rw [HS.out, List.length_append, HMA.out]; rfl)
                            clear hHeld
                            go_wp2
                            go_roundw
                            case rel => exact ⟨i + 1, j + 1, c20, c21, A20, A21, _, by omega, by omega, by go_num, by rw [HLN.out], rfl, Lib.hid HNW.out.1, by rw [HLN.out]; exact MN⟩
                            case measure => simp [intOf]; omega
                        · have HKK := Lib.hid hK
                          clear hK
                          go_simp
                          have E1 := Lib.hid (E0.out.alloc 84 #[.int .i64 ((i : Int) + 1), .int .i64 (r : Int), .int .i64 x.a, .int .i64 x.b])
                          try simp only [World.size_alloc] at E1
                          refine HKK.out _ _ ⟨E1.out.cellK 1 rfl 0, E1.out.cellK 1 rfl 1, E1.out.cellK 1 rfl 2, E1.out.cellK 1 rfl 3⟩ (fun hHeld => ?_)
                          clear HKK K
                          try simp only [Act.put, List.getElem_toArray, List.getElem_cons_zero, List.getElem_cons_succ, List.setIfInBounds_toArray, List.set_cons_zero, List.set_cons_succ]
                          refine wpAnyH_ready (rs := [2]) (by kernel_rfl) (by simp) ?_
                          refine (AllReadyH.cons rfl (fun K hK => ?_) AllReadyH.nil)
                          have HKK := Lib.hid hK
                          clear hK
                          go_simp
                          have E2 := Lib.hid (E1.out.alloc 84 #[.int .i64 ((i : Int) + 1), .int .i64 (r : Int), .int .i64 x.a, .int .i64 x.b])
                          try simp only [World.size_alloc] at E2
                          refine HKK.out _ _ ⟨E2.out.cellK 2 rfl 0, E2.out.cellK 2 rfl 1, E2.out.cellK 2 rfl 2, E2.out.cellK 2 rfl 3⟩ (fun hHeld => ?_)
                          clear HKK K
                          try simp only [Act.put, List.getElem_toArray, List.getElem_cons_zero, List.getElem_cons_succ, List.setIfInBounds_toArray, List.set_cons_zero, List.set_cons_succ]
                          refine wpAnyH_ready (rs := [3]) (by kernel_rfl) (by simp) ?_
                          refine (AllReadyH.cons rfl (fun K hK => ?_) AllReadyH.nil)
                          have HKK := Lib.hid hK
                          clear hK
                          refine wp_append_sl _ (.tmp 137) (.tmp 139) 70 rfl wb.heap.size 84 l0 _ 4 32 Tryd.underlying70 hl0 hz0 hz1 hz2 rfl (by omega) (.slice A10 ma c10) ma (loopsV (loopsTo T i)) rfl (E2.out.rowO 1 rfl) _ 1 1 [.int .i64 ((i : Int) + 1), .int .i64 (r : Int), .int .i64 x.a, .int .i64 x.b] rfl (rd_box1 (E2.out.blkK 0 rfl)) (by simp [Value.oneCell']) (by unfold maxLen; omega) (by omega) E2.out.base (ma + 1) rfl ?_
                          intro A20 c20 w20 ho20 hg20 hat20
                          have E3 := Lib.hid (((E2.out.upO 1 rfl).grow hg20 ho20 hat20).upO 1 rfl)
                          clear ho20 hg20 hat20
                          refine HKK.out _ _ ⟨E3.out.cellK 2 rfl 0, E3.out.cellK 2 rfl 1, E3.out.cellK 2 rfl 2, E3.out.cellK 2 rfl 3⟩ (fun hHeld => ?_)
                          clear HKK K
                          try simp only [Act.put, List.getElem_toArray, List.getElem_cons_zero, List.getElem_cons_succ, List.setIfInBounds_toArray, List.set_cons_zero, List.set_cons_succ]
                          refine wpAnyH_ready (rs := [7]) (by kernel_rfl) (by simp) ?_
                          refine (AllReadyH.cons rfl (fun K hK => ?_) AllReadyH.nil)
                          have HKK := Lib.hid hK
                          clear hK
                          refine wp_append_sl _ (.tmp 141) (.tmp 143) 70 rfl wb.heap.size 84 l0 _ 4 32 Tryd.underlying70 hl0 hz0 hz1 hz2 rfl (by omega) (.slice A12 j c11) j (loopsV (openAt T i i)) rfl (E3.out.rowO 0 rfl) _ 1 1 [.int .i64 ((i : Int) + 1), .int .i64 (r : Int), .int .i64 x.a, .int .i64 x.b] rfl (rd_box1 (E3.out.blkK 1 rfl)) (by simp [Value.oneCell']) (by unfold maxLen; omega) (by omega) E3.out.base (j + 1) rfl ?_
                          intro A21 c21 w21 ho21 hg21 hat21
                          have E4 := Lib.hid (E3.out.grow hg21 ho21 hat21)
                          clear ho21 hg21 hat21
                          refine HKK.out _ _ ⟨E4.out.cellK 2 rfl 0, E4.out.cellK 2 rfl 1, E4.out.cellK 2 rfl 2, E4.out.cellK 2 rfl 3⟩ (fun hHeld => ?_)
                          clear HKK K
                          try simp only [Act.put, List.getElem_toArray, List.getElem_cons_zero, List.getElem_cons_succ, List.setIfInBounds_toArray, List.set_cons_zero, List.set_cons_succ]
                          refine wpAnyH_take (i := 8) (v := ?_) rfl (by kernel_rfl) (by kernel_rfl) (by kernel_rfl) (fun _ _ _ h => h) (Or.inl ⟨by rfl, ?_⟩) (by assumption) ?_
                          rotate_left
                          · intro w' hSw
                            (try dsimp only at hSw)
                            go_simp
                            try with_reducible rfl
                          try simp only [Act.put, List.getElem_toArray, List.getElem_cons_zero, List.getElem_cons_succ, List.setIfInBounds_toArray, List.set_cons_zero, List.set_cons_succ]
                          refine wpAnyH_take (i := 9) (v := ?_) rfl (by kernel_rfl) (by kernel_rfl) (by kernel_rfl) (fun _ _ _ h => h) (Or.inl ⟨by rfl, ?_⟩) (by assumption) ?_
                          rotate_left
                          · intro w' hSw
                            (try dsimp only at hSw)
                            go_simp
                            try with_reducible rfl
                          try simp only [Act.put, List.getElem_toArray, List.getElem_cons_zero, List.getElem_cons_succ, List.setIfInBounds_toArray, List.set_cons_zero, List.set_cons_succ]
                          refine wpAnyH_done (by kernel_rfl) ?_ _
                          have HS := Lib.hid HNW.out.2
                          have MN : Hid (Mem wb w21 [] [⟨84, 4, A21, j + 1, c21, loopsV (openAt T i i ++ [⟨i + 1, r, x.a, x.b⟩])⟩, ⟨84, 4, A20, ma + 1, c20, loopsV (loopsTo T (i + 1))⟩]) := Lib.hid (by
                            rw [HS.out, ← loopsV_snoc, ← loopsV_snoc]
                            have h := E4.out.rows
                            simpa [LP.cs] using h)
                          have HLN : Hid ((loopsTo T (i + 1)).length = ma + 1) := Lib.hid (by rw [HS.out, List.length_append, HMA.out]; rfl)
                          clear hHeld
                          go_wp2
                          go_roundw
                          case rel => exact ⟨i + 1, j + 1, c20, c21, A20, A21, _, by omega, by omega, by go_num, by rw [HLN.out], rfl, Lib.hid HNW.out.1, by rw [HLN.out]; exact MN⟩
                          case measure => simp [intOf]; omega
                  · have hbad : Hid (¬ RegOk T k) := Lib.hid (fun h => by
                      obtain ⟨l, hl, hlr⟩ := HZ.out.1 rfl
                      exact inv_bad HI2.out HX.out H13.out HG.out hl (fun h2 => hlr h2.1) h.1)
                    have BF := Lib.hid (HBW.out _ M3.out.bel)
                    clear M3 HZ
                    go_wp2
                    go_ret2
                    exact .inr ⟨hbad.out, rfl, BF.out⟩
            · have z13 : (x.op == 13) = false := by simp [h13]
              have HN := Lib.hid (inv_same HI2.out HX.out h13)
              have HS := Lib.hid (loops_same HX.out h13)
              have MN : Hid (Mem wb w3 [] [⟨84, 4, A12, q, c11, loopsV (openAt T i i)⟩, ⟨84, 4, A10, ma, c10, loopsV (loopsTo T (i + 1))⟩]) := Lib.hid (by rw [HS.out]; exact M2.out.rows)
              clear h13 M2
              go_wp2
              go_roundw
              case rel => exact ⟨i + 1, q, c10, c11, A10, A12, openAt T i i, by omega, by omega, by go_num, by rw [HS.out, HMA.out], rfl, HN, by rw [HS.out, HMA.out]; rw [HS.out] at MN; exact MN⟩
              case measure => simp [intOf]; omega
        · obtain rfl : i = k := by omega
          have hii : ¬ (i : Int) < (i : Int) := by omega
          have HLO : Hid (LoopsOk T) := Lib.hid (inv_all (by rw [HTL.out]; exact HI.out) HRN.out HBB.out)
          have MA : Hid (∃ Ks, Mem wb wr Ks [⟨84, 4, A10, ma, c10, loopsV (loopsTo T i)⟩]) := Lib.hid ⟨[], N0.out.delO 0⟩
          clear N0
          have HJ0 : Hid (JumpsOk T (loopsTo T i) 0) := Lib.hid (fun i' x hi => by omega)
          go_wp2
          go_loopw [148] (fun v148 wr => ∃ a : Nat, a ≤ i ∧ v148 = .int .i64 a ∧ Hid (JumpsOk T (loopsTo T i) a) ∧ Hid (∃ Ks, Mem wb wr Ks [⟨84, 4, A10, ma, c10, loopsV (loopsTo T i)⟩])) (fun v148 _ => i - (intOf v148).toNat)
          case atStart => exact ⟨0, Nat.zero_le _, rfl, HJ0, MA⟩
          case round =>
            clear MA HJ0
            obtain ⟨a, ha, rfl, HJ, MA⟩ := hrel
            obtain ⟨Ks, M5⟩ := MA.out
            have M5 := Lib.hid M5
            clear MA
            by_cases hai : a < i
            · obtain ⟨b, o, x, rfl, hx, hbl, c0, c1, c2, c3⟩ := instr_at (HT.out.below (HBW.out _ M5.out.bel)) hai
              have HX := Lib.hid hx
              have ha0 : (0 : Int) ≤ (a : Int) := by omega
              have hai2 : (a : Int) < (i : Int) := by omega
              have M6 := Lib.hid (M5.out.alloc 50 #[.int .i64 x.op, .int .i64 x.a, .int .i64 x.b, .int .i64 x.c])
              clear hx
              go_upto_region 36 with fail
              clear hbl c0 c1 c2 c3 M5
              generalize World.alloc _ _ = w5 at M6 ⊢
              generalize wr.heap.size = g20 at M6 ⊢
              have MR : Hid (∃ Ks, Mem wb w5 (⟨g20, 50, #[.int .i64 x.op, .int .i64 x.a, .int .i64 x.b, .int .i64 x.c]⟩ :: Ks) [⟨84, 4, A10, ma, c10, loopsV (loopsTo T i)⟩]) := Lib.hid ⟨_, M6.out⟩
              have MR2 : Hid (∃ Ks, Mem wb w5 Ks [⟨84, 4, A10, ma, c10, loopsV (loopsTo T i)⟩]) := Lib.hid ⟨_, M6.out⟩
              have x0 : w5.cell? ⟨g20, 0, none⟩ = some (.int .i64 x.op) := M6.out.cellK 0 rfl 0
              clear M6
              by_cases hjp : x.op = 11 ∨ x.op = 12
              · have HJP := Lib.hid hjp
                have z11 : (x.op != 11) = true ∧ (x.op != 12) = false ∨ (x.op != 11) = false := by
                  rcases hjp with h | h
                  · right; simp [h]
                  · left; simp [h]
                clear hjp
                go_cut [160] from 153 to 160 (fun v wz => v = .bool false ∧ w5 = wz)
                case first =>
                  rcases z11 with ⟨z1, z2⟩ | z1
                  · go_wp2
                    go_meet
                    exact ⟨rfl, rfl⟩
                  · go_wp2
                    go_meet
                    exact ⟨rfl, rfl⟩
                case rest =>
                  clear z11 x0 MR2
                  obtain ⟨rfl, hwz⟩ := hcut
                  subst hwz
                  go_wp2
                  go_loopw [163] (fun v163 wr => ∃ j : Nat, j ≤ ma ∧ v163 = .int .i64 j ∧ Hid (∀ (j' : Nat) (l : LP), j' < j → (loopsTo T i)[j']? = some l → ¬ (inL l x.a ∧ ¬ inL l (a : Int))) ∧ Hid (∃ Ks, Mem wb wr (⟨g20, 50, #[.int .i64 x.op, .int .i64 x.a, .int .i64 x.b, .int .i64 x.c]⟩ :: Ks) [⟨84, 4, A10, ma, c10, loopsV (loopsTo T i)⟩])) (fun v163 _ => ma - (intOf v163).toNat)
                  case atStart => exact ⟨0, Nat.zero_le _, rfl, Lib.hid (fun j' l h => by omega), MR⟩
                  case round =>
                    clear MR
                    obtain ⟨j, hj, rfl, HA, MR⟩ := hrel
                    obtain ⟨Ks2, M7⟩ := MR.out
                    have M7 := Lib.hid M7
                    by_cases hjm : j < ma
                    · obtain ⟨b4, o4, l, rfl, hl, _, e0, e1, e2, e3⟩ := loop_at (M7.out.rdO 0 rfl) hjm
                      have HL := Lib.hid hl
                      have hj0 : (0 : Int) ≤ (j : Int) := by omega
                      have hjm2 : (j : Int) < (ma : Int) := by omega
                      have M8 := Lib.hid (M7.out.alloc 84 #[.int .i64 l.fr, .int .i64 l.to, .int .i64 l.counter, .int .i64 l.times])
                      clear hl
                      go_upto_region 40 with fail
                      clear e0 e1 e2 e3 M7 MR
                      generalize World.alloc _ _ = w6 at M8 ⊢
                      generalize wr.heap.size = g22 at M8 ⊢
                      have y0 : w6.cell? ⟨g22, 0, none⟩ = some (.int .i64 l.fr) := M8.out.cellK 0 rfl 0
                      have y1 : w6.cell? ⟨g22, 1, none⟩ = some (.int .i64 l.to) := M8.out.cellK 0 rfl 1
                      have y2 : w6.cell? ⟨g22, 2, none⟩ = some (.int .i64 l.counter) := M8.out.cellK 0 rfl 2
                      have y3 : w6.cell? ⟨g22, 3, none⟩ = some (.int .i64 l.times) := M8.out.cellK 0 rfl 3
                      have x1 : w6.cell? ⟨g20, 1, none⟩ = some (.int .i64 x.a) := M8.out.cellK 1 rfl 1
                      go_wp2_with fail
                      refine (holds_any l x.a w6).mono ?_
                      rintro e w7 ⟨rfl, hb7⟩
                      dsimp only
                      have M9 := Lib.hid (M8.out.below hb7)
                      clear hb7 M8 y0 y1 y2 y3 x1
                      have step : ¬ (inL l x.a ∧ ¬ inL l (a : Int)) → Hid (∀ (j' : Nat) (l : LP), j' < j + 1 → (loopsTo T i)[j']? = some l → ¬ (inL l x.a ∧ ¬ inL l (a : Int))) := fun hno => Lib.hid (fun j' l' hj' hl' => by
                        by_cases e : j' < j
                        · exact HA.out j' l' e hl'
                        · obtain rfl : j' = j := by omega
                          rw [HL.out] at hl'
                          obtain rfl := Option.some.inj hl'
                          exact hno)
                      by_cases hin : inL l x.a
                      · have z1 : decide (inL l x.a) = true := decide_eq_true hin
                        have y0 : w7.cell? ⟨g22, 0, none⟩ = some (.int .i64 l.fr) := M9.out.cellK 0 rfl 0
                        have y1 : w7.cell? ⟨g22, 1, none⟩ = some (.int .i64 l.to) := M9.out.cellK 0 rfl 1
                        have y2 : w7.cell? ⟨g22, 2, none⟩ = some (.int .i64 l.counter) := M9.out.cellK 0 rfl 2
                        have y3 : w7.cell? ⟨g22, 3, none⟩ = some (.int .i64 l.times) := M9.out.cellK 0 rfl 3
                        rw [z1]
                        clear z1
                        go_wp2_with fail
                        refine (holds_any l (a : Int) w7).mono ?_
                        rintro e w8 ⟨rfl, hb8⟩
                        dsimp only
                        have M10 := Lib.hid (M9.out.below hb8)
                        clear hb8 M9 y0 y1 y2 y3
                        by_cases hin2 : inL l (a : Int)
                        · have z2 : decide (inL l (a : Int)) = true := decide_eq_true hin2
                          have HN := step (fun h => h.2 hin2)
                          have MN : Hid (∃ Ks, Mem wb w8 (⟨g20, 50, #[.int .i64 x.op, .int .i64 x.a, .int .i64 x.b, .int .i64 x.c]⟩ :: Ks) [⟨84, 4, some ⟨b4, o4, none⟩, ma, c10, loopsV (loopsTo T i)⟩]) := Lib.hid ⟨_, M10.out.upK 1 rfl⟩
                          rw [z2]
                          clear z2 hin hin2 step M10
                          go_wp2
                          go_roundw
                          case rel => exact ⟨j + 1, by omega, by go_num, HN, MN⟩
                          case measure => simp [intOf]; omega
                        · have z2 : decide (inL l (a : Int)) = false := decide_eq_false hin2
                          have hbad : Hid (¬ RegOk T i) := Lib.hid (fun h => h.2 a x hai HX.out HJP.out l (List.mem_of_getElem? HL.out) ⟨hin, hin2⟩)
                          have BF := Lib.hid (HBW.out _ M10.out.bel)
                          rw [z2]
                          clear z2 hin hin2 step M10
                          go_wp2
                          go_ret2
                          exact .inr ⟨hbad.out, rfl, BF.out⟩
                      · have z1 : decide (inL l x.a) = false := decide_eq_false hin
                        have HN := step (fun h => hin h.1)
                        have MN : Hid (∃ Ks, Mem wb w7 (⟨g20, 50, #[.int .i64 x.op, .int .i64 x.a, .int .i64 x.b, .int .i64 x.c]⟩ :: Ks) [⟨84, 4, some ⟨b4, o4, none⟩, ma, c10, loopsV (loopsTo T i)⟩]) := Lib.hid ⟨_, M9.out.upK 1 rfl⟩
                        rw [z1]
                        clear z1 hin step M9
                        go_wp2
                        go_roundw
                        case rel => exact ⟨j + 1, by omega, by go_num, HN, MN⟩
                        case measure => simp [intOf]; omega
                    · obtain rfl : j = ma := by omega
                      have hjj : ¬ (j : Int) < (j : Int) := by omega
                      have HN : Hid (JumpsOk T (loopsTo T i) (a + 1)) := Lib.hid (fun i' x' hi' hx' ho l hl => by
                        by_cases e : i' < a
                        · exact HJ.out i' x' e hx' ho l hl
                        · obtain rfl : i' = a := by omega
                          rw [HX.out] at hx'
                          obtain rfl := Option.some.inj hx'
                          obtain ⟨j', hj'⟩ := List.getElem?_of_mem hl
                          exact HA.out j' l (by rw [← HMA.out]; exact (List.getElem?_eq_some_iff.1 hj').1) hj')
                      have MN : Hid (∃ Ks, Mem wb wr Ks [⟨84, 4, A10, j, c10, loopsV (loopsTo T i)⟩]) := Lib.hid ⟨_, M7.out⟩
                      clear M7 MR
                      go_wp2
                      go_roundw
                      case rel => exact ⟨a + 1, by omega, by go_num, HN, MN⟩
                      case measure => simp [intOf]; omega
              · have z1 : (x.op != 11) = true := by simp; omega
                have z2 : (x.op != 12) = true := by simp; omega
                have HN : Hid (JumpsOk T (loopsTo T i) (a + 1)) := Lib.hid (fun i' x' hi' hx' ho l hl => by
                  by_cases e : i' < a
                  · exact HJ.out i' x' e hx' ho l hl
                  · obtain rfl : i' = a := by omega
                    rw [HX.out] at hx'
                    obtain rfl := Option.some.inj hx'
                    exact absurd ho hjp)
                clear hjp MR
                go_wp2
                go_roundw
                case rel => exact ⟨a + 1, by omega, by go_num, HN, MR2⟩
                case measure => simp [intOf]; omega
            · obtain rfl : a = i := by omega
              have haa : ¬ (a : Int) < (a : Int) := by omega
              have HF : Hid (RegOk T a) := Lib.hid ⟨HLO.out, HJ.out⟩
              have MF := Lib.hid (((Mem.start w).below B0.out).join M5.out.rows)
              clear M5
              go_wp2
              go_ret2
              refine .inl ⟨HF.out, A10, c10, ?_, ?_⟩
              · rw [HMA.out]
                rfl
              · rw [HMA.out]
                exact MF.out
end Go.Proofs.YtiogcbckhaknmaaDoor.Vf
