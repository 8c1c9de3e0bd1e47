/-
  The walk of the law BlockSteps. Conditions: the arguments read; the variable that holds the length of the library's longest quick search reads.
-/
import Derived.Test.YthgjjclmepfbpaaDoorBlkN
import Derived.Test.YthgjjclmepfbpaaDoorRmy
import Derived.Deep.RegionHeld3
namespace Go.Proofs.YthgjjclmepfbpaaDoor.Blk
open Go.RowKit Go.Proofs.YthgjjclmepfbpaaDoor.W Go.Proofs.YthgjjclmepfbpaaDoor.Ints Go.Proofs.YthgjjclmepfbpaaDoor.Cell Go.Proofs.YthgjjclmepfbpaaDoor.Num

theorem roomy_row {w0 w : World} {Ks : List Box} {Os : List Row} (A : Option Addr) (n c : Nat) (l : List Int) (h : Hid (Mem w0 w Ks Os)) (hr : Rd w 1 A n (ints l)) (hn : n * 8 ≤ 140737488351232) :
    Calls Tryd.prog 14 #[.slice A n c] w fun e w' => ∃ g, e = .returned (.slice (some ⟨g, 0, none⟩) n (n + 5)) ∧ Below w.heap.size w w' ∧ Mem w0 w' Ks (⟨3, 1, some ⟨g, 0, none⟩, n + 5, n + 5, ints (l ++ marks n)⟩ :: Os) := by
  have hl : l.length = n := by simpa [ints] using hr.len
  refine (roomy_any A n c l w hr hn).mono ?_
  rintro e w' ⟨g, rfl, hg, hk, hb⟩
  exact ⟨g, rfl, hb, h.out.made hb (row_of hg hk (by simp [marks_len, hl]) (by unfold maxLen; omega))⟩

theorem Mem.one {w0 w : World} {Ks : List Box} {Os : List Row} {a : Row} (h : Mem w0 w Ks (a :: Os)) : Mem w0 w [] [a] :=
  ⟨h.bel, (fun _ h => by cases h), fun o ho => h.own o (by rw [List.mem_singleton.1 ho]; exact List.mem_cons_self ..), .nil, List.pairwise_singleton _ _, (fun _ h => by cases h)⟩
set_option maxRecDepth 100000 in
set_option maxHeartbeats 12800000 in
theorem steps_law (s : ByteArray) (A : Option Addr) (n c : Nat) (l : List Int) (B : Option Addr) (N d : Nat) (xs : List CL) (w : World) (m : Int) (hm : w.cell? ⟨0, 0, none⟩ = some (.int .i64 m)) (hr : Rd w 1 A n (ints l)) (hl : ∀ x ∈ l, I64 x) (hn : n * 8 ≤ 140737488351232) (hx : Rd w 2 B N (xs.flatMap CL.cs)) (hok : ∀ x ∈ xs, x.ok w) (hN : N * 32 ≤ 140737488351232) :
    Calls Tryd.prog 4 #[.string s, .slice A n c, .slice B N d] w fun e w' => e = .returned (.bool true) ∧ Below w.heap.size w w' := by
  obtain ⟨F, N3, NO, hF, hG, ⟨h3, hO⟩, hW⟩ := steps_all s
  obtain ⟨i0, hi0, hz0, hz1, hz2⟩ := info_parts int_info
  have HF := Lib.hid hF
  have HG := Lib.hid hG
  have HW := Lib.hid hW
  have HX := Lib.hid hx
  have HOK := Lib.hid hok
  have HM := Lib.hid (And.intro hm (lt_of_cell hm))
  have HLN : Hid (xs.length = N) := Rd.rec_len CL.len (by omega) hx
  have HR := Lib.hid hr
  have HL := Lib.hid hl
  clear hF hG hW hx hok hm hr hl
  go_enter Tryd.func4, Tryd.ntmps4
  go_wp2_with (at_builtin; refine wpList_append_rd _ rfl (.const (.slice none 0 0)) (.tmp 17) 31 rfl w.heap.size 3 i0 _ 1 8 Tryd.underlying31 hi0 hz0 hz1 hz2 rfl (by omega) _ 0 [] rfl (World.ownsRow_nil _ _ _ _) A n c (ints l) rfl HR.out (ones _ _) ?_ ?_ ?_ ?_)
  · unfold maxLen; omega
  · omega
  · exact Nat.le_refl _
  · intro v' w1 ho1 hg1 hat1
    obtain ⟨A1, c1, rfl, _⟩ := own_shape ho1
    try simp only [Nat.zero_add, List.nil_append] at ho1
    have M0 : Hid (Mem w w1 [] [⟨3, 1, A1, n, c1, ints l⟩]) := Lib.hid ((Mem.start w).made (Grow.below hg1 (Nat.le_refl _) (fun g h => by simp [Value.ownBlock] at h)) ho1)
    clear ho1 hg1 hat1 HR
    try simp only [Nat.zero_add]
    go_wp2
    go_loopw [7, 8] (fun v7 v8 wr => ∃ (k nn cc : Nat) (AA : Option Addr) (ll : List Int), k ≤ N ∧ v7 = .slice AA nn cc ∧ v8 = .int .i64 k ∧ nn * 8 ≤ 140737488351232 ∧ Hid (∀ x ∈ ll, I64 x) ∧ Hid (Mem w wr [] [⟨3, 1, AA, nn, cc, ints ll⟩])) (fun _ v8 _ => N - (intOf v8).toNat)
    case atStart => exact ⟨0, n, c1, A1, l, Nat.zero_le _, rfl, rfl, hn, HL, M0⟩
    case round =>
      clear M0 HL hn
      obtain ⟨k, nn, cc, AA, ll, hk, rfl, rfl, hnn, HL, M0⟩ := hrel
      by_cases hlt : k < N
      · obtain ⟨b, o, rfl, hc⟩ := Rd.rec CL.len (HX.out.below M0.out.bel) (by omega)
        obtain ⟨x, hxk⟩ : ∃ x, xs[k]? = some x := ⟨_, List.getElem?_eq_getElem (by rw [HLN.out]; exact hlt)⟩
        obtain ⟨hnow, hxn, ys, hys, hyb⟩ := HOK.out x (List.mem_of_getElem? hxk)
        obtain ⟨xA, xn, xc, xw⟩ := x
        dsimp only at hnow hxn hys
        have k0 : wr.cell? ⟨b, o + k * 2, none⟩ = some (.slice xA xn xc) := hc k _ hxk 0 _ rfl
        have k1 : wr.cell? ⟨b, o + k * 2 + 1, none⟩ = some (.int .i64 xw) := by
          rw [Nat.add_assoc]
          exact hc k _ hxk 1 _ rfl
        have HCW0 : Hid (∀ w' : World, Below w.heap.size w w' → w'.cell? ⟨b, o + k * 2, none⟩ = some (.slice xA xn xc) ∧ w'.cell? ⟨b, o + k * 2 + 1, none⟩ = some (.int .i64 xw)) := by
          obtain ⟨b', o', e', hc'⟩ := Rd.rec CL.len HX.out (by omega)
          injection e' with e'
          injection e' with e1 e2
          subst e1 e2
          have c0 : w.cell? ⟨b, o + k * 2, none⟩ = some (.slice xA xn xc) := hc' k _ hxk 0 _ rfl
          have c1 : w.cell? ⟨b, o + k * 2 + 1, none⟩ = some (.int .i64 xw) := by
            rw [Nat.add_assoc]
            exact hc' k _ hxk 1 _ rfl
          exact fun w' hb => ⟨(hb.cell (lt_of_cell c0)).trans c0, (hb.cell (lt_of_cell c1)).trans c1⟩
        have HIN := Lib.hid (And.intro hnow (And.intro hxn (And.intro hys hyb)))
        have hk0 : (0 : Int) ≤ (k : Int) := by omega
        have hkn : (k : Int) < (N : Int) := by omega
        have hlb := lt_of_cell k0
        clear hc hxk hnow hxn hys hyb
        have HCell : Hid (∀ w' : World, Below wr.heap.size wr w' → w'.cell? ⟨b, o + k * 2, none⟩ = some (.slice xA xn xc) ∧ w'.cell? ⟨b, o + k * 2 + 1, none⟩ = some (.int .i64 xw)) :=
          Lib.hid fun w' hb => ⟨(hb.cell hlb).trans k0, (hb.cell hlb).trans k1⟩
        have HBel : Hid (∀ w', Below wr.heap.size wr w' → Below w.heap.size w w') := Lib.hid fun w' hb => M0.out.bel.trans (hb.mono M0.out.bel.size)
        go_upto_region 5 with fail
        have dd : wr.drew.cell? ⟨b, o + k * 2, none⟩ = some (.slice xA xn xc) ∧ wr.drew.cell? ⟨b, o + k * 2 + 1, none⟩ = some (.int .i64 xw) := ⟨k0, k1⟩
        clear k0 k1
        go_region_held3 (fun w' => w'.cell? ⟨b, o + k * 2, none⟩ = some (.slice xA xn xc) ∧ w'.cell? ⟨b, o + k * 2 + 1, none⟩ = some (.int .i64 xw)) (first | with_reducible assumption | (refine ⟨?_, ?_⟩ <;> go_simp))
          ((go_at_call 13
            refine (HG.out m AA nn cc ll xA xn xc ys xw wr.drew ((M0.out.bel.cell HM.out.2).trans HM.out.1) (M0.out.rdO 0 rfl).drew (HIN.out.2.2.1.below M0.out.bel).drew HL.out HIN.out.2.2.2 HIN.out.1).mono ?_
            rintro e w2 ⟨A2, c2, A3, c3, rfl, hm2⟩
            dsimp only
            have hb2 := (((Mem.start wr).drew).join hm2).bel
            have M2 := Lib.hid (M0.out.drew.join hm2)
            have B2 := Lib.hid hb2
            have qq : w2.cell? ⟨b, o + k * 2, none⟩ = some (.slice xA xn xc) ∧ w2.cell? ⟨b, o + k * 2 + 1, none⟩ = some (.int .i64 xw) := HCell.out w2 hb2
            clear hm2 hb2))
        clear M0 dd
        have q0 := qq.1
        clear qq
        go_upto_region 6 with fail
        have dd : w2.drew.cell? ⟨b, o + k * 2, none⟩ = some (.slice xA xn xc) := q0
        have Mp := Lib.hid M2.out.drew
        have sR1 : Rd w2.drew 1 AA nn (ints ll) := M2.out.rdO 2 rfl
        have hbd : Hid (Below wr.heap.size wr w2.drew) := below_drewN B2.out 1
        clear M2 q0
        go_region_held3 (fun w' => w'.cell? ⟨b, o + k * 2, none⟩ = some (.slice xA xn xc)) (with_reducible assumption)
          ((first
            | (go_at_call 14
               refine (roomy_row AA nn cc ll Mp sR1 hnn).mono ?_
               rintro e w3 ⟨gs, rfl, hb, hmp⟩
               dsimp only
               have B3 := Lib.hid (hbd.out.trans (hb.mono hbd.out.size))
               have qq := (HCell.out w3 B3.out).1
               have sR2 : Rd w3 1 xA xn (ints ys) := HIN.out.2.2.1.below (HBel.out w3 B3.out)
               have M3 := Lib.hid hmp
               clear Mp sR1 hmp hb)
            | (go_at_call 14
               refine (roomy_row xA xn xc ys M3 sR2 HIN.out.2.1).mono ?_
               rintro e w4 ⟨gi, rfl, hb, hmp⟩
               dsimp only
               have B4 := Lib.hid (B3.out.trans (hb.mono B3.out.size))
               have qq := (HCell.out w4 B4.out).1
               have M4 := Lib.hid hmp
               clear hmp hb sR2 M3)))
        clear hbd B3 B2 dd
        have k1 := (HCell.out w4 B4.out).2
        have HCW : Hid (∀ w' : World, Below w.heap.size w w' → w'.cell? ⟨b, o + k * 2, none⟩ = some (.slice xA xn xc) ∧ w'.cell? ⟨b, o + k * 2 + 1, none⟩ = some (.int .i64 xw)) := HCW0
        have HLL : Hid (ll.length = nn) := rd_len (M4.out.rdO 4 rfl)
        have HLY : Hid (ys.length = xn) := rd_len HIN.out.2.2.1
        clear qq HCell hlb B4
        go_wp2_with fail
        refine (HF.out m _ nn _ ll _ xn _ ys xw w4 ((M4.out.bel.cell HM.out.2).trans HM.out.1) (rd_pre (M4.out.rdO 1 rfl) HLL.out) (rd_pre (M4.out.rdO 0 rfl) HLY.out) HL.out HIN.out.2.2.2 HIN.out.1).mono ?_
        rintro e w5 ⟨A5, c5, A6, c6, rfl, hm5⟩
        dsimp only
        have M5 := Lib.hid (M4.out.join hm5)
        clear hm5 M4 k1
        have k1 := (HCW.out _ M5.out.bel).2
        go_wp2_with fail
        refine (HF.out m _ nn _ ll _ xn _ ys xw w5 ((M5.out.bel.cell HM.out.2).trans HM.out.1) (rd_pre (M5.out.rdO 3 rfl) HLL.out) (rd_pre (M5.out.rdO 2 rfl) HLY.out) HL.out HIN.out.2.2.2 HIN.out.1).mono ?_
        rintro e w6 ⟨A7, c7, A8, c8, rfl, hm6⟩
        dsimp only
        have M6 := Lib.hid (M5.out.join hm6)
        clear hm6 M5 k1
        go_wp2_with fail
        refine (same_true _ _ N3 _ _ _ _ (M6.out.rdO 2 rfl) (M6.out.rdO 6 rfl) (by unfold maxLen; omega)).mono ?_
        rintro e w7 ⟨rfl, q, rfl⟩
        dsimp only
        have M7 := Lib.hid (M6.out.drewN q)
        clear M6
        generalize World.drewN _ q = w7 at M7 ⊢
        go_wp2_with fail
        refine (same_true _ _ NO _ _ _ _ (M7.out.rdO 3 rfl) (M7.out.rdO 7 rfl) (by unfold maxLen; omega)).mono ?_
        rintro e w8 ⟨rfl, q, rfl⟩
        dsimp only
        have M8 := Lib.hid (M7.out.drewN q)
        clear M7
        generalize World.drewN _ q = w8 at M8 ⊢
        go_wp2_with fail
        refine (left_any gs nn _ _ _ _ (M8.out.rdO 5 rfl) (M8.out.rdO 8 rfl) hnn).mono ?_
        rintro e w9 ⟨rfl, q, rfl⟩
        dsimp only
        have M9 := Lib.hid (M8.out.drewN q)
        clear M8
        generalize World.drewN _ q = w9 at M9 ⊢
        have k0 := (HCW.out _ M9.out.bel).1
        go_wp2_with fail
        refine (left_any gi xn _ _ _ _ (M9.out.rdO 4 rfl) (HIN.out.2.2.1.below M9.out.bel) HIN.out.2.1).mono ?_
        rintro e w10 ⟨rfl, q, rfl⟩
        dsimp only
        have M10 := Lib.hid (M9.out.drewN q)
        clear M9
        generalize World.drewN _ q = w10 at M10 ⊢
        clear k0
        have hw71 : IntKind.i64.wrap (71 + (k : Int)) = 71 + (k : Int) := by simp [IntKind.wrap, IntKind.bits, IntKind.signed]; omega
        have hw72 : IntKind.i64.wrap (72 + (k : Int)) = 72 + (k : Int) := by simp [IntKind.wrap, IntKind.bits, IntKind.signed]; omega
        go_wp2_with fail
        have MU := Lib.hid (M10.out.upO 2 rfl)
        clear M10
        refine (over_any w.heap.size _ N3 _ _ _ _ (MU.out.rowO 0 rfl) MU.out.base (by omega)).mono ?_
        rintro e w11 ⟨rfl, hg⟩
        dsimp only
        have M11 := Lib.hid (MU.out.lose hg)
        clear MU hg
        go_wp2_with fail
        refine (same_true _ _ NO _ _ _ _ (M11.out.rdO 2 rfl) (M11.out.rdO 6 rfl) (by unfold maxLen; omega)).mono ?_
        rintro e w12 ⟨rfl, q, rfl⟩
        dsimp only
        have M12 := Lib.hid (M11.out.drewN q)
        clear M11
        generalize World.drewN _ q = w12 at M12 ⊢
        go_wp2_with fail
        have MU := Lib.hid (M12.out.upO 2 rfl)
        clear M12
        refine (over_any w.heap.size _ NO _ _ _ _ (MU.out.rowO 0 rfl) MU.out.base (by omega)).mono ?_
        rintro e w13 ⟨rfl, hg⟩
        dsimp only
        have M13 := Lib.hid (MU.out.lose hg)
        clear MU hg
        go_wp2_with fail
        refine (same_true _ _ N3 _ _ _ _ (M13.out.rdO 0 rfl) (M13.out.rdO 4 rfl) (by unfold maxLen; omega)).mono ?_
        rintro e w14 ⟨rfl, q, rfl⟩
        dsimp only
        have M14 := Lib.hid (M13.out.drewN q)
        clear M13
        generalize World.drewN _ q = w14 at M14 ⊢
        go_wp2_with fail
        refine (same_true _ _ NO _ _ _ _ (M14.out.rdO 1 rfl) (M14.out.rdO 5 rfl) (by unfold maxLen; omega)).mono ?_
        rintro e w15 ⟨rfl, q, rfl⟩
        dsimp only
        have M15 := Lib.hid (M14.out.drewN q)
        clear M14
        generalize World.drewN _ q = w15 at M15 ⊢
        go_wp2_with fail
        refine (left_any gs nn _ _ _ _ (M15.out.rdO 3 rfl) (M15.out.rdO 6 rfl) hnn).mono ?_
        rintro e w16 ⟨rfl, q, rfl⟩
        dsimp only
        have M16 := Lib.hid (M15.out.drewN q)
        clear M15
        generalize World.drewN _ q = w16 at M16 ⊢
        have k0 := (HCW.out _ M16.out.bel).1
        go_wp2_with fail
        refine (left_any gi xn _ _ _ _ (M16.out.rdO 2 rfl) (HIN.out.2.2.1.below M16.out.bel) HIN.out.2.1).mono ?_
        rintro e w17 ⟨rfl, q, rfl⟩
        dsimp only
        have M17 := Lib.hid (M16.out.drewN q)
        clear M16
        generalize World.drewN _ q = w17 at M17 ⊢
        clear k0
        have M18 : Hid (Mem w w17 [] [⟨3, 1, A2, N3, c2, ints (F ll ys xw).1⟩]) := Lib.hid (Mem.one (M17.out.upO 4 rfl))
        have HL2 : Hid (∀ x ∈ (F ll ys xw).1, I64 x) := Lib.hid ((HW.out ll ys xw).2.2)
        clear M17
        go_wp2
        go_roundw
        case rel => exact ⟨k + 1, N3, c2, A2, (F ll ys xw).1, by omega, rfl, by go_num, by omega, HL2, M18⟩
        case measure => simp [intOf]; omega
      · have hk1 : ¬ (k : Int) < (N : Int) := by omega
        have B0 := Lib.hid M0.out.bel
        clear M0
        go_wp2
        go_ret
        exact ⟨rfl, B0.out⟩
end Go.Proofs.YthgjjclmepfbpaaDoor.Blk
