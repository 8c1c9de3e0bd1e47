/-
  The walk of the law BlockShift at a block's name. Conditions: the arguments read; the variable that holds the length of the library's longest quick search reads.
-/
import Derived.Test.YthgjjclmepfbpaaDoorBlkM2
import Derived.BigRegion
namespace Go.Proofs.YthgjjclmepfbpaaDoor.Blk
open Go.RowKit Go.Proofs.YthgjjclmepfbpaaDoor.W Go.Proofs.YthgjjclmepfbpaaDoor.Ints Go.Proofs.YthgjjclmepfbpaaDoor.Cell Go.Proofs.YthgjjclmepfbpaaDoor.Num

theorem wrap_i64 (x : Int) : I64 (IntKind.i64.wrap x) ∧ ∃ q : Int, IntKind.i64.wrap x = x + q * 18446744073709551616 := by
  unfold I64
  refine ⟨?_, ?_⟩
  · simp [IntKind.wrap, IntKind.bits, IntKind.signed]
    omega
  · by_cases h : x % 18446744073709551616 ≥ 9223372036854775808
    · exact ⟨-(x / 18446744073709551616) - 1, by simp [IntKind.wrap, IntKind.bits, IntKind.signed]; omega⟩
    · exact ⟨-(x / 18446744073709551616), by simp [IntKind.wrap, IntKind.bits, IntKind.signed]; omega⟩

theorem Mem.duo {w0 w : World} {Ks : List Box} {Os : List Row} {a b : Row} (h : Mem w0 w Ks (a :: b :: Os)) : Mem w0 w Ks [a, b] :=
  ⟨h.bel, h.blk, fun o ho => h.own o (by rcases List.mem_cons.1 ho with rfl | ho; exact List.mem_cons_self ..; exact List.mem_cons_of_mem _ (by rw [List.mem_singleton.1 ho]; exact List.mem_cons_self ..)), h.disK,
    h.disO.sublist (List.Sublist.cons_cons _ (List.Sublist.cons_cons _ (List.nil_sublist _))), fun k hk o ho => h.dis k hk o (by rcases List.mem_cons.1 ho with rfl | ho; exact List.mem_cons_self ..; exact List.mem_cons_of_mem _ (by rw [List.mem_singleton.1 ho]; exact List.mem_cons_self ..))⟩
set_option maxRecDepth 100000 in
set_option maxHeartbeats 12800000 in
theorem shift_known {bb : BT} (hbb : bb ∈ bts) (B : Option Addr) (N d : Nat) (xs : List CL) (D : Int) (w : World) (m : Int) (hm : w.cell? ⟨0, 0, none⟩ = some (.int .i64 m)) (hx : Rd w 2 B N (xs.flatMap CL.cs)) (hok : ∀ x ∈ xs, x.ok w) (hN : N * 32 ≤ 140737488351232) :
    Calls Tryd.prog 5 #[.string bb.nm, .slice B N d, .int .i64 D] w fun e w' => e = .returned (.bool true) ∧ Below w.heap.size w w' := by
  obtain ⟨Bd, N3, NO, hF, _, hW, hS, hn3, hno, h3, hO⟩ := does_all hbb
  obtain ⟨R, hR0, hRS⟩ := hS D
  rw [hn3] at hR0
  have HSH : Hid (∀ w1 : World, w1.cell? ⟨0, 0, none⟩ = some (.int .i64 m) → Calls Tryd.prog 9 #[.string bb.nm] w1 fun e w' => ∃ A1 n1 c1 A2 c2 A3 c3, e = .returned (.tuple #[.agg #[.slice A1 n1 c1, .slice A2 NO c2, .slice A3 N3 c3], .bool true]) ∧ Below w1.heap.size w1 w') := by
    intro w1 h1
    refine (shape_known hbb m w1 h1).mono ?_
    rintro e w' ⟨A1, c1, A2, c2, A3, c3, Ks, rfl, M⟩
    subst hn3 hno
    exact ⟨A1, _, c1, A2, c2, A3, c3, rfl, M.bel⟩
  have HST : Hid (∀ w1 : World, w1.cell? ⟨0, 0, none⟩ = some (.int .i64 m) → Calls Tryd.prog 9 #[.string ⟨#[116, 111, 110]⟩] w1 fun e w' => ∃ A1 n1 c1 A2 n2 c2 A3 n3 c3, e = .returned (.tuple #[.agg #[.slice A1 n1 c1, .slice A2 n2 c2, .slice A3 n3 c3], .bool true]) ∧ Below w1.heap.size w1 w') := by
    intro w1 h1
    refine (shape_known (b := b_ton) (by simp [bts]) m w1 h1).mono ?_
    rintro e w' ⟨A1, c1, A2, c2, A3, c3, Ks, rfl, M⟩
    exact ⟨_, _, _, _, _, _, _, _, _, rfl, M.bel⟩
  obtain ⟨nm, hnm⟩ : ∃ nm, bb.nm = nm := ⟨_, rfl⟩
  have HF : Hid (∀ (m : Int) (A : Option Addr) (n c : Nat) (l : List Int) (A' : Option Addr) (n' c' : Nat) (l' : List Int) (now : Int) (w : World), w.cell? ⟨0, 0, none⟩ = some (.int .i64 m) → Rd w 1 A n (ints l) → Rd w 1 A' n' (ints l') → (∀ x ∈ l, I64 x) → (∀ x ∈ l', I64 x) → I64 now →
    Calls Tryd.prog 15 #[.string nm, .slice A n c, .slice A' n' c', .int .i64 now] w fun e w' => ∃ g2 g3, e = .returned (.tuple #[.slice (some ⟨g2, 0, none⟩) N3 N3, .slice (some ⟨g3, 0, none⟩) NO NO]) ∧ Mem w w' [] [⟨3, 1, some ⟨g2, 0, none⟩, N3, N3, ints (stepF bb Bd l l' now).1⟩, ⟨3, 1, some ⟨g3, 0, none⟩, NO, NO, ints (stepF bb Bd l l' now).2⟩]) := by
    rw [← hnm]
    exact hF
  rw [hnm] at HSH ⊢
  have HW := Lib.hid hW
  have HRS := Lib.hid hRS
  have HR0 := Lib.hid hR0
  have HX := Lib.hid hx
  have HOK := Lib.hid hok
  have HM := Lib.hid (And.intro hm (lt_of_cell hm))
  have HLN : Hid (xs.length = N) := Rd.rec_len CL.len (by omega) hx
  have hmk := fun w => make_any N3 (by omega) w
  clear hF hW hRS hR0 hx hok hm hn3 hno hS hnm hbb
  go_enter Tryd.func5, Tryd.ntmps5
  go_wp2_with fail
  refine (HSH.out w HM.out.1).mono ?_
  rintro e w1 ⟨A1, n1, c1, A2, c2, A3, c3, rfl, hb1⟩
  dsimp only
  have M1 := Lib.hid (((Mem.start w).below hb1).alloc 24 #[.slice A1 n1 c1, .slice A2 NO c2, .slice A3 N3 c3])
  clear hb1
  go_upto_region 2 with fail
  generalize World.alloc _ _ = w2 at M1 ⊢
  generalize w1.heap.size = gx at M1 ⊢
  go_wp2_with fail
  refine (HST.out w2 ((M1.out.bel.cell HM.out.2).trans HM.out.1)).mono ?_
  rintro e w3 ⟨E1, k1, f1, E2, k2, f2, E3, k3, f3, rfl, hb3⟩
  dsimp only
  have M3 := Lib.hid (((M1.out.below hb3).alloc 24 #[.slice E1 k1 f1, .slice E2 k2 f2, .slice E3 k3 f3]).delK 0)
  clear hb3 M1
  go_upto_region 5 with fail
  generalize World.alloc _ _ = w4 at M3 ⊢
  generalize w3.heap.size = gy at M3 ⊢
  have x2 : w4.cell? ⟨gx, 2, none⟩ = some (.slice A3 N3 c3) := M3.out.cellK 0 rfl 2
  have hgx := lt_of_cell x2
  go_cut [11, 12] from 29 to 36 (fun v11 v12 wc => ∃ g1 g2, v11 = .slice (some ⟨g1, 0, none⟩) N3 N3 ∧ v12 = .slice (some ⟨g2, 0, none⟩) N3 N3 ∧ Hid (Mem w wc [⟨gx, 24, #[.slice A1 n1 c1, .slice A2 NO c2, .slice A3 N3 c3]⟩] [⟨3, 1, some ⟨g1, 0, none⟩, N3, N3, ints (List.replicate N3 0)⟩, ⟨3, 1, some ⟨g2, 0, none⟩, N3, N3, ints (List.replicate N3 0)⟩]))
  case first =>
    go_region
    all_goals go_wp2
    all_goals go_meet
    all_goals first
      | exact ⟨_, _, rfl, rfl, Lib.hid (two_rows M3.out (List.replicate N3 0) (List.replicate N3 0) N3 N3 (noughts_list N3) (noughts_list N3) (by simp) (by simp) (by omega) (by omega)).drew⟩
      | exact ⟨_, _, rfl, rfl, Lib.hid ((two_rows M3.out (List.replicate N3 0) (List.replicate N3 0) N3 N3 (noughts_list N3) (noughts_list N3) (by simp) (by simp) (by omega) (by omega)).drew.upO 1 rfl)⟩
  case rest =>
    obtain ⟨g1, g2, rfl, rfl, M5⟩ := hcut
    clear M3 x2 hgx hmk HSH HST
    have HI0 : Hid (∀ x ∈ List.replicate N3 (0 : Int), I64 x) := Lib.hid (fun x hx => by rw [(List.mem_replicate.1 hx).2]; exact ⟨by decide, by decide⟩)
    go_wp2
    go_loopw [11, 12, 13] (fun v11 v12 v13 wr => ∃ (k g1 g2 : Nat) (ls lt : List Int), k ≤ N ∧ v11 = .slice (some ⟨g1, 0, none⟩) N3 N3 ∧ v12 = .slice (some ⟨g2, 0, none⟩) N3 N3 ∧ v13 = .int .i64 k ∧ Hid (R ls lt) ∧ Hid (∀ x ∈ ls, I64 x) ∧ Hid (∀ x ∈ lt, I64 x) ∧ Hid (Mem w wr [⟨gx, 24, #[.slice A1 n1 c1, .slice A2 NO c2, .slice A3 N3 c3]⟩] [⟨3, 1, some ⟨g1, 0, none⟩, N3, N3, ints ls⟩, ⟨3, 1, some ⟨g2, 0, none⟩, N3, N3, ints lt⟩])) (fun _ _ v13 _ => N - (intOf v13).toNat)
    case atStart => exact ⟨0, g1, g2, _, _, Nat.zero_le _, rfl, rfl, rfl, HR0, HI0, HI0, M5⟩
    case round =>
      clear M5 HI0 HR0
      obtain ⟨k, g1, g2, ls, lt, hk, rfl, rfl, rfl, HRR, HLS, HLT, M5⟩ := hrel
      by_cases hlt : k < N
      · obtain ⟨b, o, rfl, hc⟩ := Rd.rec CL.len HX.out (by omega)
        obtain ⟨x, hxk⟩ : ∃ x, xs[k]? = some x := ⟨_, List.getElem?_eq_getElem (by rw [HLN.out]; exact hlt)⟩
        obtain ⟨hnow, hxn, ys, hys, hyb⟩ := HOK.out x (List.mem_of_getElem? hxk)
        obtain ⟨xA, xn, xc, xw⟩ := x
        dsimp only at hnow hxn hys
        have j0 : w.cell? ⟨b, o + k * 2, none⟩ = some (.slice xA xn xc) := hc k _ hxk 0 _ rfl
        have j1 : w.cell? ⟨b, o + k * 2 + 1, none⟩ = some (.int .i64 xw) := by
          rw [Nat.add_assoc]
          exact hc k _ hxk 1 _ rfl
        have HCW : Hid (∀ w' : World, Below w.heap.size w w' → w'.cell? ⟨b, o + k * 2, none⟩ = some (.slice xA xn xc) ∧ w'.cell? ⟨b, o + k * 2 + 1, none⟩ = some (.int .i64 xw)) :=
          Lib.hid fun w' hb => ⟨(hb.cell (lt_of_cell j0)).trans j0, (hb.cell (lt_of_cell j1)).trans j1⟩
        have HIN := Lib.hid (And.intro hnow (And.intro hxn (And.intro hys hyb)))
        have hk0 : (0 : Int) ≤ (k : Int) := by omega
        have hkn : (k : Int) < (N : Int) := by omega
        clear hc hxk hnow hxn hys hyb j0 j1
        obtain ⟨t2, ht2⟩ : ∃ t, IntKind.i64.wrap (xw + D) = t := ⟨_, rfl⟩
        have HT2 : Hid (I64 t2 ∧ ∃ q : Int, t2 = xw + D + q * 18446744073709551616) := by
          rw [← ht2]
          exact wrap_i64 _
        go_upto_region 10 with fail
        have dd : wr.drew.cell? ⟨b, o + k * 2, none⟩ = some (.slice xA xn xc) ∧ wr.drew.cell? ⟨b, o + k * 2 + 1, none⟩ = some (.int .i64 xw) := HCW.out wr M5.out.bel
        go_region_held3 (fun w' => w'.cell? ⟨b, o + k * 2, none⟩ = some (.slice xA xn xc) ∧ w'.cell? ⟨b, o + k * 2 + 1, none⟩ = some (.int .i64 xw)) (first | with_reducible assumption | (refine ⟨?_, ?_⟩ <;> go_simp))
          ((go_at_call 15
            refine (HF.out m _ N3 N3 ls xA xn xc ys xw wr.drew ((M5.out.bel.cell HM.out.2).trans HM.out.1) (M5.out.rdO 0 rfl).drew (HIN.out.2.2.1.below M5.out.bel).drew HLS.out HIN.out.2.2.2 HIN.out.1).mono ?_
            rintro e w6 ⟨g3, g4, rfl, hm6⟩
            dsimp only
            have M6 := Lib.hid (M5.out.drew.join hm6)
            have qq := HCW.out w6 M6.out.bel
            clear hm6))
        clear M5 dd
        go_upto_region 11 with fail
        have dd : w6.drew.cell? ⟨b, o + k * 2, none⟩ = some (.slice xA xn xc) ∧ w6.drew.cell? ⟨b, o + k * 2 + 1, none⟩ = some (.int .i64 xw) := qq
        clear qq
        go_region_held3 (fun w' => w'.cell? ⟨b, o + k * 2, none⟩ = some (.slice xA xn xc) ∧ w'.cell? ⟨b, o + k * 2 + 1, none⟩ = some (.int .i64 xw)) (first | with_reducible assumption | (refine ⟨?_, ?_⟩ <;> go_simp))
          ((go_at_call 15
            (try rw [ht2])
            refine (HF.out m _ N3 N3 lt xA xn xc ys t2 w6.drew ((M6.out.bel.cell HM.out.2).trans HM.out.1) (M6.out.rdO 3 rfl).drew (HIN.out.2.2.1.below M6.out.bel).drew HLT.out HIN.out.2.2.2 HT2.out.1).mono ?_
            rintro e w7 ⟨g5, g6, rfl, hm7⟩
            dsimp only
            have M7 := Lib.hid (M6.out.drew.join hm7)
            have qq := HCW.out w7 M7.out.bel
            clear hm7))
        clear M6 dd qq
        have HS2 := Lib.hid (HRS.out ls lt ys xw t2 HRR.out HT2.out.2)
        have x1 : w7.cell? ⟨gx, 1, none⟩ = some (.slice A2 NO c2) := M7.out.cellK 0 rfl 1
        have x2 : w7.cell? ⟨gx, 2, none⟩ = some (.slice A3 N3 c3) := M7.out.cellK 0 rfl 2
        have MN : Hid (∀ q, Mem w (w7.drewN q) [⟨gx, 24, #[.slice A1 n1 c1, .slice A2 NO c2, .slice A3 N3 c3]⟩] [⟨3, 1, some ⟨g3, 0, none⟩, N3, N3, ints (stepF bb Bd ls ys xw).1⟩, ⟨3, 1, some ⟨g5, 0, none⟩, N3, N3, ints (stepF bb Bd lt ys t2).1⟩]) :=
          Lib.hid fun q => (Mem.duo ((M7.out.upO 2 rfl).upO 1 rfl)).drewN q |> fun h => h.upO 1 rfl
        have HO : Hid (Rd w7 1 (some ⟨g4, 0, none⟩) NO (ints (stepF bb Bd ls ys xw).2) ∧ Rd w7 1 (some ⟨g6, 0, none⟩) NO (ints (stepF bb Bd ls ys xw).2)) := Lib.hid ⟨M7.out.rdO 3 rfl, by rw [HS2.out.2]; exact M7.out.rdO 1 rfl⟩
        have HI1 := Lib.hid (HW.out ls ys xw).2.2
        have HI2 := Lib.hid (HW.out lt ys t2).2.2
        have HLO : Hid ((stepF bb Bd ls ys xw).2.length = NO) := (HW.out ls ys xw).2.1
        clear M7 HRR HLS HLT HIN HT2 ht2
        go_wp2
        obtain ⟨w8, hw8⟩ : ∃ w8 : World, w8 = w7 := ⟨_, rfl⟩
        subst hw8
        go_loopw [16] (fun v16 wi => ∃ j : Nat, j ≤ NO ∧ v16 = .int .i64 j ∧ ∃ q, wi = w8.drewN q) (fun v16 _ => NO - (intOf v16).toNat)
        case atStart => exact ⟨0, Nat.zero_le _, rfl, 0, rfl⟩
        case round =>
          clear x1 x2
          obtain ⟨j, hj, rfl, q, rfl⟩ := hrel
          by_cases hjl : j < NO
          · obtain ⟨z, hz⟩ : ∃ z, (stepF bb Bd ls ys xw).2[j]? = some z := ⟨_, List.getElem?_eq_getElem (by rw [HLO.out]; exact hjl)⟩
            have y1 : w8.cell? ⟨g4, j, none⟩ = some (.int .i64 z) := rd_cells HO.out.1 (by omega) j _ hz
            have y2 : w8.cell? ⟨g6, j, none⟩ = some (.int .i64 z) := rd_cells HO.out.2 (by omega) j _ hz
            have hj0 : (0 : Int) ≤ (j : Int) := by omega
            have hjn : (j : Int) < (NO : Int) := by omega
            clear hz
            go_wp2
            go_quiet (fail)
            go_wp2
            go_roundw
            case rel => exact ⟨j + 1, by omega, by go_num, _, rfl⟩
            case measure => simp [intOf]; omega
          · have hj1 : ¬ (j : Int) < (NO : Int) := by omega
            go_wp2
            go_roundw
            case rel => exact ⟨k + 1, g3, g5, _, _, by omega, rfl, rfl, by go_num, HS2.out.1, HI1, HI2, MN.out q⟩
            case measure => simp [intOf]; omega
      · have hk1 : ¬ (k : Int) < (N : Int) := by omega
        have B0 := Lib.hid M5.out.bel
        clear M5
        go_wp2
        go_ret
        exact ⟨rfl, B0.out⟩
end Go.Proofs.YthgjjclmepfbpaaDoor.Blk
