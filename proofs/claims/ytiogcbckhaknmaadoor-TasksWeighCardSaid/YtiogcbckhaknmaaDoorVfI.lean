/-
  The program's bound. Conditions: the text, the loops and the bounds read; the loops may be.
-/
import Derived.Test.YtiogcbckhaknmaaDoorVp7
namespace Go.Proofs.YtiogcbckhaknmaaDoor.Vf
open Go.RowKit Go.Proofs.YtiogcbckhaknmaaDoor.W Go.Proofs.YtiogcbckhaknmaaDoor.Ints Go.Proofs.YtiogcbckhaknmaaDoor.Cod Go.Proofs.YtiogcbckhaknmaaDoor.Cell

theorem loops_split {T : List IN} : ∀ {n m : Nat}, m ≤ n → ∃ rest, loopsTo T n = loopsTo T m ++ rest ∧ ∀ l ∈ rest, m < l.fr
  | 0, m, h => by
    obtain rfl : m = 0 := by omega
    exact ⟨[], by simp, fun l hl => by cases hl⟩
  | n + 1, m, h => by
    by_cases e : m = n + 1
    · subst e
      exact ⟨[], by simp, fun l hl => by cases hl⟩
    · obtain ⟨rest, h1, h2⟩ := loops_split (T := T) (n := n) (m := m) (by omega)
      refine ⟨rest ++ loopAt T n, by show loopsTo T n ++ loopAt T n = _; rw [h1, List.append_assoc], fun l hl => ?_⟩
      rcases List.mem_append.1 hl with h3 | h3
      · exact h2 l h3
      · unfold loopAt at h3
        split at h3
        · split at h3
          · obtain rfl := List.mem_singleton.1 h3
            show m < n + 1
            omega
          · cases h3
        · cases h3
/-- which loop begins at a place -/
theorem next_yes {T : List IN} {i n : Nat} {x : IN} (hi : i + 1 ≤ n) (hx : T[i]? = some x) (ho : x.op = 13) : (loopsTo T n)[(loopsTo T i).length]? = some (loopOf T i x) := by
  obtain ⟨rest, h1, _⟩ := loops_split (T := T) hi
  rw [h1, loops_snoc hx ho, List.append_assoc, List.getElem?_append_right (Nat.le_refl _), Nat.sub_self]
  rfl
theorem next_no {T : List IN} {i n : Nat} (hi : i ≤ n) (hno : ∀ j x, i = j + 1 → T[j]? = some x → ¬ x.op = 13) {l : LP} (hl : (loopsTo T n)[(loopsTo T (i - 1)).length]? = some l) : l.fr ≠ i := by
  obtain ⟨rest, h1, h2⟩ := loops_split (T := T) hi
  have e : loopsTo T (i - 1) = loopsTo T i := by
    cases i with
    | zero => rfl
    | succ j =>
      show loopsTo T j = loopsTo T j ++ loopAt T j
      unfold loopAt
      split
      · rename_i x hx
        rw [if_neg (hno j x rfl hx), List.append_nil]
      · rw [List.append_nil]
  rw [e, h1, List.getElem?_append_right (Nat.le_refl _), Nat.sub_self] at hl
  have := h2 l (List.mem_of_getElem? hl)
  omega
theorem loopAt_no {T : List IN} {i : Nat} (hno : ∀ j x, i = j + 1 → T[j]? = some x → ¬ x.op = 13) (h0 : i ≤ T.length) (hL : LoopsOk T) : openAt T i i = openAt T (i - 1) i ∧ loopsTo T i = loopsTo T (i - 1) := by
  cases i with
  | zero => exact ⟨rfl, rfl⟩
  | succ j =>
    have hx : T[j]? = some T[j] := List.getElem?_eq_getElem (by omega)
    have h1 := open_next hL hx
    have h2 : loopAt T j = [] := by
      unfold loopAt
      rw [hx]
      simp [hno j _ rfl hx]
    rw [h2, List.append_nil] at h1
    exact ⟨h1, by show loopsTo T j ++ loopAt T j = _; rw [h2, List.append_nil]; rfl⟩
theorem times_open {T : List IN} {m i k : Nat} (h : FitOk T m) : TimesOk (openAt T i k) := fun l hl => times_ok h l (List.mem_filter.1 hl).1
theorem push_yes {T : List IN} {i n j m : Nat} {y : IN} (hij : i = j + 1) (hi : i ≤ n) (hL : LoopsOk T) (hf : FitOk T m) (hx : T[j]? = some y) (ho : y.op = 13) :
    ∃ l, (loopsTo T n)[(loopsTo T (i - 1)).length]? = some l ∧ l.fr = i ∧ openAt T i i = openAt T (i - 1) i ++ [l] ∧ loopsTo T i = loopsTo T (i - 1) ++ [l] ∧ 1 ≤ l.times ∧ l.times ≤ 10000 := by
  subst hij
  have h1 : loopAt T j = [loopOf T j y] := by
    unfold loopAt
    rw [hx]
    exact if_pos ho
  refine ⟨loopOf T j y, next_yes hi hx ho, rfl, ?_, loops_snoc hx ho, ?_⟩
  · rw [open_next hL hx, h1]
    rfl
  · exact times_ok (k := j + 1) hf _ (by rw [loops_snoc hx ho]; exact List.mem_append_right _ (List.mem_singleton.2 rfl))
theorem ints_take (L : List Nat) (k : Nat) : (ints (natL L)).take (k * 1) = ints (natL (L.take k)) := by
  simp [ints, natL, List.map_take]
set_option maxRecDepth 100000 in
set_option maxHeartbeats 25600000 in
theorem bound_any (A : Option Addr) (n c : Nat) (T : List IN) (LA : Option Addr) (ln lc : Nat) (B : Option Addr) (m d : Nat) (bs : List Nat) (w : World) (hT : Rd w 4 A n (textV T)) (hn : n ≤ 100000) (hLo : LoopsOk T) (hL : Rd w 4 LA ln (loopsV (loopsTo T n))) (hB : Rd w 1 B m (ints (natL bs))) (hbs : BsOk bs) (hfit : FitOk T bs.length) :
    Calls Tryd.prog 32 #[.slice A n c, .slice LA ln lc, .slice B m d] w fun e w' => e = .returned (.int .i64 (boundF T bs : Nat)) ∧ Below w.heap.size w w' := by
  have htl : T.length = n := Rd.rec_len IN.size (by omega) hT
  have hbl : bs.length = m := by simpa [ints, natL] using hB.1
  have hll : (loopsTo T n).length = ln := Rd.rec_len LP.size (by omega) hL
  have hln := loops_len (T := T) n
  rw [hll] at hln
  obtain ⟨i0, hI0, hz0, hz1, hz2⟩ := info_parts int_info
  obtain ⟨l0, hl0, hy0, hy1, hy2⟩ := info_parts region_info
  obtain ⟨R, hR⟩ : ∃ R, boundF T bs = R := ⟨_, rfl⟩
  rw [hR]
  have HR := Lib.hid hR
  have HT := Lib.hid hT
  have HTL := Lib.hid htl
  have HLL := Lib.hid hll
  have HB := Lib.hid hB
  have HBS := Lib.hid hbs
  have HFIT := Lib.hid hfit
  have HLO := Lib.hid hLo
  have HLR := Lib.hid hL
  rw [hbl] at HFIT
  have HBL := Lib.hid hbl
  clear hT htl hB hbs hfit hLo hL hR hbl hll
  have N0 : Hid (∃ Ks, Mem w w Ks [⟨84, 4, none, 0, 0, loopsV (openAt T (0 - 1) (0 - 1))⟩, ⟨3, 1, none, 0, 0, ints (natL (wts (openAt T (0 - 1) (0 - 1))))⟩]) := Lib.hid ⟨_, ((Mem.start w).nilO 3 1).nilO 84 4⟩
  go_enter Tryd.func32, Tryd.ntmps32
  go_wp2
  go_loopw [7, 8, 9, 10, 11, 17] (fun v7 v8 v9 v10 v11 v17 wr => ∃ (i q c9 c10 : Nat) (A9 A10 : Option Addr), i ≤ n ∧ q ≤ i ∧ v17 = .int .i64 i ∧ v7 = .int .i64 (min (sumTo T (loopsTo T n) bs i) lidN : Nat) ∧ v8 = .int .i64 (cT (openAt T (i - 1) (i - 1)) : Nat) ∧ v9 = .slice A9 q c9 ∧ v10 = .slice A10 q c10 ∧ v11 = .int .i64 ((loopsTo T (i - 1)).length : Nat) ∧ Hid ((openAt T (i - 1) (i - 1)).length = q) ∧ Hid (∃ Ks, Mem w wr Ks [⟨84, 4, A10, q, c10, loopsV (openAt T (i - 1) (i - 1))⟩, ⟨3, 1, A9, q, c9, ints (natL (wts (openAt T (i - 1) (i - 1))))⟩])) (fun _ _ _ _ _ v17 _ => n - (intOf v17).toNat)
  case atStart => exact ⟨0, 0, 0, 0, none, none, Nat.zero_le _, Nat.le_refl _, rfl, rfl, rfl, rfl, rfl, rfl, rfl, N0⟩
  case round =>
    clear N0
    obtain ⟨i, q, c9, c10, A9, A10, hi, hqi, rfl, rfl, rfl, rfl, rfl, rfl, HQ, N0⟩ := hrel
    obtain ⟨Ks, N1⟩ := N0.out
    have N1 := Lib.hid N1
    clear N0
    obtain ⟨sm, hsm⟩ : ∃ sm, min (sumTo T (loopsTo T n) bs i) lidN = sm := ⟨_, rfl⟩
    have hsmb : sm ≤ lidN := by rw [← hsm]; exact Nat.min_le_right _ _
    rw [hsm]
    have HSM := Lib.hid hsm
    clear hsm
    have hnx := loops_len (T := T) (i - 1)
    obtain ⟨nx, hnxe⟩ : ∃ nx, (loopsTo T (i - 1)).length = nx := ⟨_, rfl⟩
    rw [hnxe] at hnx ⊢
    have HNX := Lib.hid hnxe
    clear hnxe
    unfold lidN at hsmb
    by_cases hlt : i < n
    · obtain ⟨b, o, x, rfl, hx, hbl, c0, c1, c2, c3⟩ := instr_at (HT.out.below N1.out.bel) hlt
      have HX := Lib.hid hx
      have hi0 : (0 : Int) ≤ (i : Int) := by omega
      have hin : (i : Int) < (n : Int) := by omega
      have M1 := Lib.hid (N1.out.alloc 50 #[.int .i64 x.op, .int .i64 x.a, .int .i64 x.b, .int .i64 x.c])
      have HDEC : Hid (Dec (openAt T (i - 1) (i - 1))) := Lib.hid (open_dec HLO.out (i - 1) (by rw [HTL.out]; omega))
      have HFI : Hid ((openAt T (i - 1) (i - 1)).filter (fun l => decide (i ≤ l.to)) = openAt T (i - 1) i) := Lib.hid (open_more (by omega))
      obtain ⟨O, hO⟩ : ∃ O, openAt T (i - 1) (i - 1) = O := ⟨_, rfl⟩
      rw [hO] at M1 HQ HDEC HFI ⊢
      clear hx hO
      go_upto_block 2 with (fail)
      clear hbl c0 c1 c2 c3 N1
      generalize World.alloc _ _ = w3 at M1 ⊢
      generalize wr.heap.size = g13 at M1 ⊢
      have M2 : Hid (∃ Ks, Mem w w3 (⟨g13, 50, #[.int .i64 x.op, .int .i64 x.a, .int .i64 x.b, .int .i64 x.c]⟩ :: Ks) [⟨84, 4, A10, q, c10, loopsV O⟩, ⟨3, 1, A9, q, c9, ints (natL (wts O))⟩]) := Lib.hid ⟨_, M1.out⟩
      clear M1
      go_cut [8, 9, 10] from 22 to 51 (fun v8 v9 v10 wc => ∃ (A8 A7 : Option Addr) (p : Nat), p ≤ i ∧ v8 = .int .i64 (cT (openAt T (i - 1) i) : Nat) ∧ v9 = .slice A8 p c9 ∧ v10 = .slice A7 p c10 ∧ Hid ((openAt T (i - 1) i).length = p) ∧ Hid (∃ Ks, Mem w wc (⟨g13, 50, #[.int .i64 x.op, .int .i64 x.a, .int .i64 x.b, .int .i64 x.c]⟩ :: Ks) [⟨84, 4, A7, p, c10, loopsV (openAt T (i - 1) i)⟩, ⟨3, 1, A8, p, c9, ints (natL (wts (openAt T (i - 1) i)))⟩]))
      case first =>
        have HOT : Hid (O.take q = O) := Lib.hid (List.take_of_length_le (by rw [HQ.out]; exact Nat.le_refl _))
        have M3 : Hid (∃ Ks, Mem w w3 (⟨g13, 50, #[.int .i64 x.op, .int .i64 x.a, .int .i64 x.b, .int .i64 x.c]⟩ :: Ks) [⟨84, 4, A10, q, c10, loopsV (O.take q)⟩, ⟨3, 1, A9, q, c9, ints (natL (wts (O.take q)))⟩]) := Lib.hid (by
          rw [HOT.out]
          exact M2.out)
        have HC0 : Hid (cT O = cT (O.take q)) := Lib.hid (by rw [HOT.out])
        have HCAP : Hid (q ≤ c10 ∧ q ≤ c9) := Lib.hid (by
          obtain ⟨_, M⟩ := M2.out
          exact ⟨(M.shapeO 0 rfl).1, (M.shapeO 1 rfl).1⟩)
        clear M2
        go_wp2
        go_loopw [8, 9, 10] (fun v8 v9 v10 wr => ∃ j : Nat, j ≤ q ∧ v8 = .int .i64 (cT (O.take j) : Nat) ∧ v9 = .slice A9 j c9 ∧ v10 = .slice A10 j c10 ∧ Hid (∀ l ∈ O.drop j, l.to < i) ∧ Hid (∃ Ks, Mem w wr (⟨g13, 50, #[.int .i64 x.op, .int .i64 x.a, .int .i64 x.b, .int .i64 x.c]⟩ :: Ks) [⟨84, 4, A10, j, c10, loopsV (O.take j)⟩, ⟨3, 1, A9, j, c9, ints (natL (wts (O.take j)))⟩])) (fun _ _ v10 _ => lenS v10)
        case atStart => exact ⟨q, Nat.le_refl _, by rw [HC0.out], rfl, rfl, Lib.hid (by rw [List.drop_of_length_le (by rw [HQ.out]; exact Nat.le_refl _)]; intro l hl; cases hl), M3⟩
        case round =>
          clear M3
          obtain ⟨j, hj, rfl, rfl, rfl, HLOW, M3⟩ := hrel
          by_cases hj0 : j = 0
          · subst hj0
            have HOP : Hid (openAt T (i - 1) i = []) := Lib.hid (by
              have h1 := open_pop (j := 0) HDEC.out HLOW.out (fun l hl => by simp at hl)
              rw [HFI.out] at h1
              rw [← h1]
              rfl)
            have HCE : Hid (cT (O.take 0) = cT (openAt T (i - 1) i)) := Lib.hid (by rw [HOP.out]; rfl)
            go_wp2
            go_meet
            exact ⟨A9, A10, 0, Nat.zero_le _, by rw [HCE.out], rfl, rfl, Lib.hid (by rw [HOP.out]; rfl), by rw [HOP.out]; exact M3⟩
          · obtain ⟨j', rfl⟩ : ∃ j', j = j' + 1 := ⟨j - 1, by omega⟩
            have htop : O[j']? = some (O[j']'(by rw [HQ.out]; omega)) := List.getElem?_eq_getElem _
            obtain ⟨t, htt⟩ : ∃ t, O[j']'(by rw [HQ.out]; omega) = t := ⟨_, rfl⟩
            rw [htt] at htop
            clear htt
            obtain ⟨Ks3, M4⟩ := M3.out
            obtain ⟨b4, o4, t', rfl, ht', _, e0, e1, e2, e3⟩ := loop_at (M4.rdO 0 rfl) (show j' < j' + 1 by omega)
            rw [List.getElem?_take_of_lt (by omega), htop] at ht'
            obtain rfl := Option.some.inj ht'
            obtain ⟨b6, o6, rfl, f0⟩ := nat_at (M4.rdO 1 rfl) (show j' < j' + 1 by omega)
            have hwt : (wts (O.take (j' + 1))).getD j' 0 = cT (O.take j') := by
              rw [List.getD_eq_getElem?_getD, wts_at _ _ (by rw [List.length_take, HQ.out]; omega), List.take_take, Nat.min_eq_left (by omega)]
              rfl
            rw [hwt] at f0
            clear hwt
            have HTOP := Lib.hid htop
            clear htop ht'
            have hcc : j' + 1 ≤ c10 := by have := HCAP.out.1; omega
            have hcd : j' + 1 ≤ c9 := by have := HCAP.out.2; omega
            have hjk : j' + 1 ≤ 100000 := by omega
            have M4 := Lib.hid M4
            by_cases hlow : t.to < i
            · have hlow2 : (t.to : Int) < (i : Int) := by omega
              have HN : Hid (∀ l ∈ O.drop j', l.to < i) := Lib.hid (fun l hl => by
                rw [List.drop_eq_getElem_cons (by rw [HQ.out]; omega)] at hl
                rcases List.mem_cons.1 hl with h | h
                · have := HTOP.out
                  rw [List.getElem?_eq_getElem (by rw [HQ.out]; omega)] at this
                  rw [h, Option.some.inj this]
                  exact hlow
                · exact HLOW.out l h)
              have MN : Hid (∃ Ks, Mem w wr (⟨g13, 50, #[.int .i64 x.op, .int .i64 x.a, .int .i64 x.b, .int .i64 x.c]⟩ :: Ks) [⟨84, 4, some ⟨b4, o4, none⟩, j', c10, loopsV (O.take j')⟩, ⟨3, 1, some ⟨b6, o6, none⟩, j', c9, ints (natL (wts (O.take j')))⟩]) := Lib.hid ⟨_, by
                have h := Mem.cut M4.out (show j' ≤ j' + 1 by omega)
                rw [loops_take, List.take_take, Nat.min_eq_left (by omega)] at h
                have h := Mem.cut (h.upO 1 rfl) (show j' ≤ j' + 1 by omega)
                rw [ints_take, wts_take _ _ (by rw [List.length_take, HQ.out]; omega), List.take_take, Nat.min_eq_left (by omega)] at h
                exact h.upO 1 rfl⟩
              obtain ⟨ct, hct⟩ : ∃ ct, cT (O.take j') = ct := ⟨_, rfl⟩
              rw [hct] at f0
              have HCT := Lib.hid hct
              clear M3 M4 HLOW e0 e2 e3 hct hlow
              go_upto_region 10 with fail
              go_quiet (fail)
              go_wp2
              go_roundw
              case rel => exact ⟨j', by omega, by rw [HCT.out], by go_num, by go_num, HN, by obtain ⟨_, M⟩ := MN.out; exact Lib.hid ⟨_, M.drewN _⟩⟩
              case measure => simp [lenS]
            · have hlow2 : ¬ (t.to : Int) < (i : Int) := by omega
              have HOP : Hid (O.take (j' + 1) = openAt T (i - 1) i) := Lib.hid (by
                rw [← HFI.out]
                refine open_pop HDEC.out HLOW.out fun l hl => ?_
                rw [take_snoc HTOP.out, List.getLast?_concat] at hl
                rw [← Option.some.inj hl]
                omega)
              have HQ2 : Hid ((openAt T (i - 1) i).length = j' + 1) := Lib.hid (by rw [← HOP.out, List.length_take, HQ.out]; omega)
              rw [HOP.out] at M3 ⊢
              clear HLOW M4 e0 e2 e3 f0
              go_wp2
              go_meet
              exact ⟨_, _, j' + 1, by omega, rfl, rfl, rfl, HQ2, M3⟩
      case rest =>
        clear M2
        obtain ⟨A8, A7, p, hpi, rfl, rfl, rfl, HQ2, M2⟩ := hcut
        clear HQ HDEC HFI
        have hFT := times_open (k := i) (i := i - 1) HFIT.out
        have hct := cT_le (openAt T (i - 1) i)
        unfold lidN at hct
        obtain ⟨ct, hcte⟩ : ∃ ct, cT (openAt T (i - 1) i) = ct := ⟨_, rfl⟩
        rw [hcte] at hct ⊢
        have HCT := Lib.hid hcte
        clear hcte hFT
        apply_assumption
        refine wp_seq_k fun K0 hK0 => ?_
        go_cut [8, 9, 10, 11] from 52 to 85 (fun v8 v9 v10 v11 wd => ∃ (A5 A6 : Option Addr) (c5 c6 : Nat), v8 = .int .i64 (cT (openAt T i i) : Nat) ∧ v9 = .slice A5 (openAt T i i).length c5 ∧ v10 = .slice A6 (openAt T i i).length c6 ∧ v11 = .int .i64 ((loopsTo T i).length : Nat) ∧ Hid (∃ Ks, Mem w wd (⟨g13, 50, #[.int .i64 x.op, .int .i64 x.a, .int .i64 x.b, .int .i64 x.c]⟩ :: Ks) [⟨84, 4, A6, (openAt T i i).length, c6, loopsV (openAt T i i)⟩, ⟨3, 1, A5, (openAt T i i).length, c5, ints (natL (wts (openAt T i i)))⟩]))
        case first =>
          by_cases hE : ∃ j y, i = j + 1 ∧ T[j]? = some y ∧ y.op = 13
          · obtain ⟨l, hl1, hl2, HO1, HO2, ht1, ht2⟩ : ∃ l, (loopsTo T n)[(loopsTo T (i - 1)).length]? = some l ∧ l.fr = i ∧ openAt T i i = openAt T (i - 1) i ++ [l] ∧ loopsTo T i = loopsTo T (i - 1) ++ [l] ∧ 1 ≤ l.times ∧ l.times ≤ 10000 := by
              obtain ⟨j, y, h1, h2, h3⟩ := hE
              exact push_yes h1 (by omega) HLO.out HFIT.out h2 h3
            clear hE
            rw [HNX.out] at hl1
            have hnl : nx < ln := by
              have := (List.getElem?_eq_some_iff.1 hl1).1
              rw [HLL.out] at this
              exact this
            obtain ⟨Ks3, M3⟩ := M2.out
            obtain ⟨b4, o4, l', rfl, hl', _, e0, e1, e2, e3⟩ := loop_at (HLR.out.below M3.bel) hnl
            rw [hl1] at hl'
            obtain rfl := Option.some.inj hl'
            have HLC : Hid (∀ w', Below w.heap.size w w' → w'.cell? ⟨b4, o4 + nx * 4, none⟩ = some (.int .i64 l.fr) ∧ w'.cell? ⟨b4, o4 + nx * 4 + 1, none⟩ = some (.int .i64 l.to) ∧ w'.cell? ⟨b4, o4 + nx * 4 + 2, none⟩ = some (.int .i64 l.counter) ∧ w'.cell? ⟨b4, o4 + nx * 4 + 3, none⟩ = some (.int .i64 l.times)) := Lib.hid (fun w' hb => by
              obtain ⟨b5, o5, l', h5, hl', _, g0, g1, g2, g3⟩ := loop_at (HLR.out.below hb) hnl
              rw [hl1] at hl'
              obtain rfl := Option.some.inj hl'
              injection h5 with h5
              injection h5 with h6 h7
              subst h6 h7
              exact ⟨g0, g1, g2, g3⟩)
            have M3 := Lib.hid M3
            have HO1 := Lib.hid HO1
            have HO2 := Lib.hid HO2
            clear hl1 hl' M2
            rw [hl2] at e0
            have hnn : (nx : Int) < (ln : Int) := by omega
            obtain ⟨tm, htm⟩ : ∃ tm : Nat, l.times = (tm : Int) := ⟨l.times.toNat, by omega⟩
            rw [htm] at e3 ht1 ht2
            have HTM := Lib.hid htm
            clear htm
            have hp1 : (ct : Int) * (tm : Int) ≤ 10000000010000 := by
              have h1 : ct * tm ≤ 1000000001 * 10000 := Nat.mul_le_mul hct (by omega)
              have h2 : ((ct * tm : Nat) : Int) ≤ ((1000000001 * 10000 : Nat) : Int) := Int.ofNat_le.2 h1
              rw [Int.natCast_mul] at h2
              omega
            have hp0 : (0 : Int) ≤ (ct : Int) * (tm : Int) := Int.mul_nonneg (by omega) (by omega)
            go_upto_if 64 with fail
            have hpn : p ≤ 100000 := by omega
            go_upto_region 13 with (at_builtin; refine wpList_append_rd _ rfl (.tmp 65) (.tmp 67) 25 rfl w.heap.size 3 i0 _ 1 8 Tryd.underlying25 hI0 hz0 hz1 hz2 rfl (by omega) (.slice A8 p c9) p (ints (natL (wts (openAt T (i - 1) i)))) rfl ((M3.out.rowO 1 rfl).alloc _) _ 1 1 [.int .i64 (ct : Int)] rfl (rd_new _ _ _) (by simp [Value.oneCell']) (by unfold maxLen; omega) (by omega) (Nat.le_trans M3.out.base (by simp)) ?_; intro v' wy ho hg hat; obtain ⟨A9, c9', rfl, _⟩ := own_shape ho; have M4 := Lib.hid ((M3.out.upO 1 rfl).appd hg ho (by simpa using hat)); clear ho hg hat)
            obtain ⟨f0, f1, f2, f3⟩ := HLC.out _ M4.out.bel
            rw [HTM.out] at f3
            clear e0 e1 e2 e3
            go_upto_region 14 with fail
            have HC8 : Hid ((if 1000000001 < (ct : Int) * (tm : Int) then 1000000001 else (ct : Int) * (tm : Int)) = (cT (openAt T i i) : Nat)) := Lib.hid (by
              rw [HO1.out, cT_snoc _ _ (by rw [HTM.out]; omega), HCT.out, HTM.out, Int.toNat_natCast]
              unfold lidN
              have : ((ct * tm : Nat) : Int) = (ct : Int) * (tm : Int) := Int.natCast_mul _ _
              split <;> omega)
            have HLEN : Hid ((openAt T i i).length = p + 1) := Lib.hid (by rw [HO1.out, List.length_append, HQ2.out]; rfl)
            have HLN1 : Hid ((loopsTo T i).length = nx + 1) := Lib.hid (by rw [HO2.out, List.length_append, HNX.out]; rfl)
            obtain ⟨v8, hv8⟩ : ∃ v8, (if 1000000001 < (ct : Int) * (tm : Int) then 1000000001 else (ct : Int) * (tm : Int)) = v8 := ⟨_, rfl⟩
            rw [hv8]
            rw [hv8] at HC8
            clear hv8 hp1 hp0
            go_upto_region 15 with (at_builtin; refine wpList_append_rd _ rfl (.tmp 77) (.tmp 82) 70 rfl w.heap.size 84 l0 _ 4 32 Tryd.underlying70 hl0 hy0 hy1 hy2 rfl (by omega) (.slice A7 p c10) p (loopsV (openAt T (i - 1) i)) rfl ((M4.out.rowO 1 rfl).alloc _) _ 1 1 [.int .i64 (i : Int), .int .i64 (l.to : Int), .int .i64 l.counter, .int .i64 (tm : Int)] rfl (rd_newR _ _ _) (by simp [Value.oneCell']) (by unfold maxLen; omega) (by omega) (Nat.le_trans M4.out.base (by simp)) ?_; intro v' wz ho hg hat; obtain ⟨A6, c6, rfl, _⟩ := own_shape ho; have M5 := Lib.hid ((M4.out.upO 1 rfl).appd hg ho (by simpa using hat)); clear ho hg hat)
            have MN : Hid (∃ Ks, Mem w wz (⟨g13, 50, #[.int .i64 x.op, .int .i64 x.a, .int .i64 x.b, .int .i64 x.c]⟩ :: Ks) [⟨84, 4, A6, p + 1, c6, loopsV (openAt T i i)⟩, ⟨3, 1, A9, p + 1, c9', ints (natL (wts (openAt T i i)))⟩]) := Lib.hid ⟨_, by
              rw [HO1.out, wts_snoc, HCT.out, ← loopsV_snoc]
              have h := M5.out
              simpa [LP.cs, HTM.out, hl2, ints, natL] using h⟩
            clear M4 M5 f0 f1 f2 f3
            go_wp2
            go_meet
            exact ⟨A9, A6, c9', c6, by rw [HC8.out], by rw [HLEN.out], by rw [HLEN.out], by rw [HLN1.out]; go_num, by rw [HLEN.out]; exact MN⟩
          · have hno : ∀ j x, i = j + 1 → T[j]? = some x → ¬ x.op = 13 := fun j y h1 h2 h3 => hE ⟨j, y, h1, h2, h3⟩
            obtain ⟨HO1, HO2⟩ := loopAt_no hno (by rw [HTL.out]; omega) HLO.out
            have HO1 := Lib.hid HO1
            have HO2 := Lib.hid HO2
            clear hE
            have HC8 : Hid (ct = cT (openAt T i i)) := Lib.hid (by rw [HO1.out, HCT.out])
            have HLEN : Hid ((openAt T i i).length = p) := Lib.hid (by rw [HO1.out, HQ2.out])
            have HLN1 : Hid ((loopsTo T i).length = nx) := Lib.hid (by rw [HO2.out, HNX.out])
            have MN : Hid (∃ Ks, Mem w wc (⟨g13, 50, #[.int .i64 x.op, .int .i64 x.a, .int .i64 x.b, .int .i64 x.c]⟩ :: Ks) [⟨84, 4, A7, p, c10, loopsV (openAt T i i)⟩, ⟨3, 1, A8, p, c9, ints (natL (wts (openAt T i i)))⟩]) := Lib.hid (by
              rw [HO1.out]
              exact M2.out)
            by_cases hnl : nx < ln
            · obtain ⟨Ks3, M3⟩ := M2.out
              obtain ⟨b4, o4, l, rfl, hl, _, e0, e1, e2, e3⟩ := loop_at (HLR.out.below M3.bel) hnl
              have hne := next_no (by omega) hno (by rw [HNX.out]; exact hl)
              have hnn : (nx : Int) < (ln : Int) := by omega
              have hz : ((l.fr : Int) == (i : Int)) = false := by simp; omega
              clear hl hno M3 M2 hne
              go_wp2
              go_meet
              exact ⟨A8, A7, c9, c10, by rw [HC8.out], by rw [HLEN.out], by rw [HLEN.out], by rw [HLN1.out], by rw [HLEN.out]; exact MN⟩
            · have hnn : ¬ (nx : Int) < (ln : Int) := by omega
              clear hno M2
              go_wp2
              go_meet
              exact ⟨A8, A7, c9, c10, by rw [HC8.out], by rw [HLEN.out], by rw [HLEN.out], by rw [HLN1.out], by rw [HLEN.out]; exact MN⟩
        case rest =>
          clear M2 HQ2 HCT hct
          obtain ⟨A5, A6, c5, c6, rfl, rfl, rfl, rfl, M2⟩ := hcut
          have hp2 : (openAt T i i).length ≤ i := Nat.le_trans (List.length_filter_le _ _) (loops_len (T := T) i)
          have hct := cT_le (openAt T i i)
          have HFIN : Hid (min (sm + min (stepsN bs x * cT (openAt T i i)) lidN) lidN = min (sumTo T (loopsTo T n) bs (i + 1)) lidN) := Lib.hid (by
            obtain ⟨st1, _⟩ := steps_bd (bs := bs) (by rw [HBL.out]; exact HFIT.out) HBS.out HX.out
            rw [← HSM.out, Nat.mul_comm, cT, cap_mul _ _ st1, sum_cap, Nat.mul_comm, ← prod_open hi, ← w_at HX.out]
            rfl)
          obtain ⟨st1, st2⟩ := steps_bd (bs := bs) (by rw [HBL.out]; exact HFIT.out) HBS.out HX.out
          have hf := HFIT.out i x HX.out
          obtain ⟨p2, hp2e⟩ : ∃ p2, (openAt T i i).length = p2 := ⟨_, rfl⟩
          have HP2 := Lib.hid hp2e
          rw [hp2e] at M2 hp2 ⊢
          obtain ⟨ct2, hct2⟩ : ∃ ct2, cT (openAt T i i) = ct2 := ⟨_, rfl⟩
          have HCT2 := Lib.hid hct2
          rw [hct2] at hct HFIN ⊢
          unfold lidN at hct
          obtain ⟨nx2, hnx2⟩ : ∃ nx2, (loopsTo T i).length = nx2 := ⟨_, rfl⟩
          have HNX2 := Lib.hid hnx2
          rw [hnx2]
          clear hct2 hnx2 hp2e
          obtain ⟨Ks3, M3⟩ := M2.out
          have x0 : wc.cell? ⟨g13, 0, none⟩ = some (.int .i64 x.op) := M3.cellK 0 rfl 0
          have x1 : wc.cell? ⟨g13, 1, none⟩ = some (.int .i64 x.a) := M3.cellK 0 rfl 1
          have x2 : wc.cell? ⟨g13, 2, none⟩ = some (.int .i64 x.b) := M3.cellK 0 rfl 2
          have M3 := Lib.hid M3
          apply_assumption
          go_upto_block 4 with fail
          go_cut [14] from 88 to 99 (fun v14 wz => v14 = .int .i64 (stepsN bs x : Nat) ∧ wc = wz)
          case first =>
            by_cases h16 : x.op = 16
            · have hz : (x.op == 16) = true := by simp [h16]
              have HE : Hid ((stepsN bs x : Int) = x.b) := Lib.hid (by
                have := hf.1 h16
                unfold stepsN
                rw [if_pos h16]
                omega)
              clear hf h16
              go_wp2
              go_meet
              exact ⟨by rw [HE.out], rfl⟩
            · have hz : (x.op == 16) = false := by simp [h16]
              by_cases h17 : x.op = 17
              · obtain ⟨f1, f2⟩ := hf.2.1 h17
                obtain ⟨an, han⟩ : ∃ an : Nat, x.a = (an : Int) := ⟨x.a.toNat, by omega⟩
                obtain ⟨b2, o2, e2, hc2⟩ := nat_at (HB.out.below M3.out.bel) (show an < m by omega)
                have hz2 : (x.op == 17) = true := by simp [h17]
                have HE : Hid (stepsN bs x = 1 + bs.getD an 0) := Lib.hid (by unfold stepsN; rw [if_neg (by omega), if_pos h17, han]; rfl)
                have hbd : bs.getD an 0 ≤ 1000000000 := by
                  have := HE.out
                  unfold lidN at st2
                  omega
                subst e2
                generalize bs.getD an 0 = bv at hc2 HE hbd
                rw [han] at x1
                have ha1 : (an : Int) < (m : Int) := by omega
                have ha0 : (0 : Int) ≤ (an : Int) := by omega
                clear hf f1 f2 h17 h16
                go_wp2
                go_meet
                exact ⟨by rw [HE.out]; go_num, rfl⟩
              · have hz2 : (x.op == 17) = false := by simp [h17]
                have HE : Hid ((stepsN bs x : Int) = 1) := Lib.hid (by
                  unfold stepsN
                  rw [if_neg h16, if_neg h17]
                  rfl)
                clear hf h17 h16
                go_wp2
                go_meet
                exact ⟨by rw [HE.out], rfl⟩
          case rest =>
            obtain ⟨rfl, hwz⟩ := hcut
            subst hwz
            obtain ⟨sn, hsn⟩ : ∃ sn, stepsN bs x = sn := ⟨_, rfl⟩
            rw [hsn] at st1 st2 HFIN ⊢
            unfold lidN at st2
            clear hsn hf x0 x1 x2
            have hp1 : (sn : Int) * (ct2 : Int) ≤ 1000000002000000001 := by
              have h1 : sn * ct2 ≤ 1000000001 * 1000000001 := Nat.mul_le_mul st2 hct
              have h2 : ((sn * ct2 : Nat) : Int) ≤ ((1000000001 * 1000000001 : Nat) : Int) := Int.ofNat_le.2 h1
              rw [Int.natCast_mul] at h2
              omega
            have hp0 : (0 : Int) ≤ (sn : Int) * (ct2 : Int) := Int.mul_nonneg (by omega) (by omega)
            have HFJ : Hid ((min (sumTo T (loopsTo T n) bs (i + 1)) lidN : Nat) = min ((sm : Int) + min ((sn : Int) * (ct2 : Int)) 1000000001) 1000000001) := Lib.hid (by
              rw [← HFIN.out]
              unfold lidN
              have := Int.natCast_mul sn ct2
              omega)
            obtain ⟨pr, hpr⟩ : ∃ pr, (sn : Int) * (ct2 : Int) = pr := ⟨_, rfl⟩
            rw [hpr] at hp1 hp0 HFJ
            clear M3
            go_wp2

            go_roundw
            case rel => exact ⟨i + 1, p2, c5, c6, A5, A6, by omega, by omega, by go_num, by rw [HFJ.out]; congr 1; omega, by rw [← HCT2.out]; rfl, rfl, rfl, by rw [← HNX2.out]; rfl, HP2, by obtain ⟨_, M⟩ := M2.out; exact Lib.hid ⟨_, M.delK 0⟩⟩
            case measure => simp [intOf]; omega
    · obtain rfl : i = n := by omega
      have hii : ¬ (i : Int) < (i : Int) := by omega
      have HF : Hid (R = sm) := Lib.hid (by rw [← HR.out, ← HSM.out]; unfold boundF; rw [HTL.out])
      have BF := Lib.hid N1.out.bel
      clear N1
      go_wp2
      go_ret
      exact ⟨ret_int (by rw [HF.out]), BF.out⟩
end Go.Proofs.YtiogcbckhaknmaaDoor.Vf
