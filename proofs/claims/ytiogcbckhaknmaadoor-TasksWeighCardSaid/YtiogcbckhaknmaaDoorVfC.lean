/-
  The reference's stackOk. Conditions: the text reads, within the reach; jumps lead forward, into the text or behind it, rounds back.
-/
import Derived.Test.YtiogcbckhaknmaaDoorVfB
import Derived.Test.YtiogcbckhaknmaaDoorMake
import Derived.Test.YtiogcbckhaknmaaDoorApl
import Derived.Deep.RegionHeld3
namespace Go.Proofs.YtiogcbckhaknmaaDoor.Vf
open Go.RowKit Go.Proofs.YtiogcbckhaknmaaDoor.W Go.Proofs.YtiogcbckhaknmaaDoor.Ints Go.Proofs.YtiogcbckhaknmaaDoor.Cod Go.Proofs.YtiogcbckhaknmaaDoor.Cell

theorem hAt_get {H : List Int} {t : Nat} (h : t < H.length) : (ints H)[t]? = some (.int .i64 (hAt H t)) := by
  unfold hAt
  simp [ints, List.getD_eq_getElem?_getD, h]
theorem own_at {w : World} {B : Nat} {e : TypeId} {g n c : Nat} {H : List Int} (h : w.ownsRow B e 1 (.slice (some ⟨g, 0, none⟩) n c) n (ints H)) {t : Nat} (ht : t < n) : w.cell? ⟨g, t, none⟩ = some (.int .i64 (hAt H t)) := by
  rw [h.cellAt t (by omega)]
  have := h.1
  rw [Nat.mul_one, ints, List.length_map] at this
  exact hAt_get (by omega)
theorem ints_set (H : List Int) (t : Nat) (v : Int) : (ints H).set t (.int .i64 v) = ints (H.set t v) := by simp [ints, List.map_set]
def TsOk (T : List IN) : Prop := ∀ (i : Nat) (x : IN), T[i]? = some x → (x.op = 11 ∨ x.op = 12 → (i : Int) < x.a ∧ x.a ≤ T.length) ∧ (x.op = 14 → 1 ≤ x.b ∧ x.b ≤ i)
theorem ts_bd {T : List IN} (h : TsOk T) {i : Nat} {x : IN} (hx : T[i]? = some x) : ∀ t ∈ tsF i x, 0 ≤ t ∧ t ≤ T.length := by
  have hi := (List.getElem?_eq_some_iff.1 hx).1
  obtain ⟨h1, h2⟩ := h i x hx
  intro t ht
  unfold tsF at ht
  simp only [List.mem_append] at ht
  rcases ht with ht | ht | ht
  · split at ht
    · cases ht
    · obtain rfl := List.mem_singleton.1 ht; omega
  · split at ht
    · rename_i ho
      obtain rfl := List.mem_singleton.1 ht
      have := h1 ho
      omega
    · cases ht
  · split at ht
    · rename_i ho
      obtain rfl := List.mem_singleton.1 ht
      have := h2 ho
      omega
    · cases ht
theorem ts_len (i : Nat) (x : IN) : (tsF i x).length ≤ 2 := by
  unfold tsF
  split
  · rename_i h
    simp [h]
  · split <;> split <;> simp
    rename_i h1 h2
    omega
def ts1 (i : Nat) (x : IN) : List Int := if x.op = 11 then [] else [(i : Int) + 1]
def ts2 (i : Nat) (x : IN) : List Int := ts1 i x ++ (if x.op = 11 ∨ x.op = 12 then [x.a] else [])
theorem ts1_len (i : Nat) (x : IN) : (ts1 i x).length ≤ 1 := by unfold ts1; split <;> simp
theorem ts2_len (i : Nat) (x : IN) : (ts2 i x).length ≤ 2 := by unfold ts2 ts1; split <;> split <;> simp
theorem set_snoc {H : List Int} {ts : List Int} {j : Nat} {t h : Int} (ht : ts[j]? = some t) : setAll H (ts.take (j + 1)) h = (setAll H (ts.take j) h).set t.toNat h := by
  rw [take_snoc ht]
  unfold setAll
  rw [List.foldl_append]
  rfl
theorem mem_take {α : Type} {l : List α} {j : Nat} {a : α} (h : a ∈ l.take j) : a ∈ l := List.mem_of_mem_take h
/-- the heights' row, at first -/
def filled (n k : Nat) : List Int := List.replicate k (-1) ++ List.replicate (n - k) 0
theorem filled_set {n k : Nat} (h : k < n) : (filled n k).set k (-1) = filled n (k + 1) := by
  unfold filled
  rw [List.set_append_right _ _ (by simp), List.length_replicate, Nat.sub_self, show n - k = (n - (k + 1)) + 1 by omega, List.replicate_succ, List.set_cons_zero, List.replicate_succ']
  simp
theorem filled_all (n : Nat) : (filled (n + 1) (n + 1)).set 0 0 = first n := by
  unfold filled first
  simp [List.replicate_succ]

set_option maxRecDepth 100000 in
set_option maxHeartbeats 12800000 in
theorem stackOk_any (A : Option Addr) (n c : Nat) (T : List IN) (w : World) (hT : Rd w 4 A n (textV T)) (hn : n ≤ 100000) (hts : TsOk T) :
    Calls Tryd.prog 17 #[.slice A n c] w fun e w' => e = .returned (.bool (levF T)) ∧ Below w.heap.size w w' := by
  have htl : T.length = n := Rd.rec_len IN.size (by omega) hT
  obtain ⟨i0, hi0, hz0', hz1', hz2'⟩ := info_parts int_info
  have hmk := make_any (n + 1) (by omega) w
  obtain ⟨R, hR⟩ : ∃ R, levF T = R := ⟨_, rfl⟩
  rw [hR]
  have HR := Lib.hid hR
  have HT := Lib.hid hT
  have HTL := Lib.hid htl
  have HTS := Lib.hid hts
  clear hT htl hR hts
  have M0 : Hid (Mem w (w.alloc (.cells (noughts (n + 1)) 3)) [] [⟨3, 1, some ⟨w.heap.size, 0, none⟩, n + 1, n + 1, ints (filled (n + 1) 0)⟩]) := Lib.hid ((Mem.start w).made (below_alloc _) (by
    have h := make_own (n + 1) (by omega) w (Nat.le_refl _)
    simpa [filled] using h))
  have hwn2 : (n : Int) + 1 = ((n + 1 : Nat) : Int) := by omega
  rw [← hwn2] at hmk
  clear hwn2
  go_enter Tryd.func17, Tryd.ntmps17
  go_upto_region 2 with fail
  clear hmk
  generalize World.alloc _ _ = w1 at M0 ⊢
  generalize w.heap.size = gh at M0 ⊢
  go_wp2
  go_loopw [4] (fun v4 wr => ∃ k : Nat, k ≤ n + 1 ∧ v4 = .int .i64 k ∧ Hid (Mem w wr [] [⟨3, 1, some ⟨gh, 0, none⟩, n + 1, n + 1, ints (filled (n + 1) k)⟩])) (fun v4 _ => n + 1 - (intOf v4).toNat)
  case atStart => exact ⟨0, Nat.zero_le _, rfl, M0⟩
  case round =>
    clear M0
    obtain ⟨k, hk, rfl, M0⟩ := hrel
    by_cases hlt : k < n + 1
    · have hk0 : (0 : Int) ≤ (k : Int) := by omega
      have hkn : (k : Int) < (n : Int) + 1 := by omega
      have hu := own_at (M0.out.rowO 0 rfl) hlt
      have hfz := (M0.out.rowO 0 rfl).frozenAt k
      have M1 : Hid (Mem w (wr.setCell ⟨gh, k, none⟩ (.int .i64 (-1))) [] [⟨3, 1, some ⟨gh, 0, none⟩, n + 1, n + 1, ints (filled (n + 1) (k + 1))⟩]) := Lib.hid (by
        have h := M0.out.put (j := k) (.int .i64 (-1))
        rw [ints_set, filled_set hlt] at h
        exact h)
      clear M0
      go_wp2
      go_roundw
      case rel => exact ⟨k + 1, by omega, by go_num, M1⟩
      case measure => simp [intOf]; omega
    · obtain rfl : k = n + 1 := by omega
      have hkk : ¬ ((n + 1 : Nat) : Int) < (n : Int) + 1 := by omega
      have hu := own_at (M0.out.rowO 0 rfl) (show 0 < n + 1 by omega)
      have hfz := (M0.out.rowO 0 rfl).frozenAt 0
      have M1 : Hid (Mem w (wr.setCell ⟨gh, 0, none⟩ (.int .i64 0)) [] [⟨3, 1, some ⟨gh, 0, none⟩, n + 1, n + 1, ints (first n)⟩]) := Lib.hid (by
        have h := M0.out.put (j := 0) (.int .i64 0)
        rw [ints_set, filled_all] at h
        exact h)
      have hn0 : (0 : Int) < (n : Int) + 1 := by omega
      go_upto_region 7 with fail
      clear M0 hu hfz hn0
      generalize World.setCell _ _ _ = w2 at M1 ⊢
      have HL0 : Hid (levTo T 0 = some (first n)) := Lib.hid (by rw [← HTL.out]; rfl)
      go_wp2
      go_loopw [5] (fun v5 wr => ∃ (k : Nat) (H : List Int), k ≤ n ∧ v5 = .int .i64 k ∧ Hid (levTo T k = some H) ∧ Hid (Mem w wr [] [⟨3, 1, some ⟨gh, 0, none⟩, n + 1, n + 1, ints H⟩])) (fun v5 _ => n - (intOf v5).toNat)
      case atStart => exact ⟨0, first n, Nat.zero_le _, rfl, HL0, M1⟩
      case round =>
        clear M1 HL0
        obtain ⟨k, H, hk, rfl, HL, M0⟩ := hrel
        have hlen := lev_len HL.out
        rw [HTL.out] at hlen
        have HBD := Lib.hid (hbd_lev HL.out)
        by_cases hlt : k < n
        · obtain ⟨b, o, x, rfl, hx, hbl, c0, c1, c2, c3⟩ := instr_at (HT.out.below M0.out.bel) hlt
          have HX := Lib.hid hx
          have HSN := Lib.hid (lev_snoc HL.out hx)
          have hk0 : (0 : Int) ≤ (k : Int) := by omega
          have hkn : (k : Int) < (n : Int) := by omega
          have hkn1 : (k : Int) < (n : Int) + 1 := by omega
          have hu := own_at (M0.out.rowO 0 rfl) (show k < n + 1 by omega)
          obtain ⟨hb1, hb2⟩ := hbd_at HBD.out k
          obtain ⟨tb1, tb2⟩ := takes_bd x
          obtain ⟨lb1, lb2⟩ := leaves_bd x
          have HTSB := Lib.hid (ts_bd HTS.out hx)
          generalize hq : hAt H (k : Int) = h0 at hu hb1 hb2
          have HQ := Lib.hid hq
          clear hx hq
          by_cases hneg : h0 < 0
          · have HN : Hid (levTo T (k + 1) = some H) := Lib.hid (by rw [HSN.out]; unfold stepF; rw [HQ.out, if_pos hneg])
            clear c0 c1 c2 c3
            go_wp2
            go_roundw
            case rel => exact ⟨k + 1, H, by omega, by go_num, HN, M0⟩
            case measure => simp [intOf]; omega
          · have HNEG := Lib.hid hneg
            have M1 := Lib.hid (M0.out.alloc 50 #[.int .i64 x.op, .int .i64 x.a, .int .i64 x.b, .int .i64 x.c])
            clear M0
            go_upto_region 12 with fail
            clear c0 c1 c2 c3 hu hbl
            generalize World.alloc _ _ = w3 at M1 ⊢
            generalize wr.heap.size = g6 at M1 ⊢
            have N0 := Lib.hid M1.out.drew
            have sE : w3.drew.cell? ⟨gh, k, none⟩ = some (.int .i64 h0) ∧ w3.drew.cell? ⟨g6, 0, none⟩ = some (.int .i64 x.op) ∧ w3.drew.cell? ⟨g6, 1, none⟩ = some (.int .i64 x.a) ∧ w3.drew.cell? ⟨g6, 2, none⟩ = some (.int .i64 x.b) ∧ w3.drew.cell? ⟨g6, 3, none⟩ = some (.int .i64 x.c) := ⟨by rw [← HQ.out]; exact own_at (N0.out.rowO 0 rfl) (show k < n + 1 by omega), N0.out.cellK 0 rfl 0, N0.out.cellK 0 rfl 1, N0.out.cellK 0 rfl 2, N0.out.cellK 0 rfl 3⟩
            clear M1
            have hwt : IntKind.i64.wrap (h0 - takesF x) = h0 - takesF x := by simp [IntKind.wrap, IntKind.bits, IntKind.signed]; omega
            generalize htt : takesF x = tk at *
            generalize hll : leavesF x = lv at *
            have HTK := Lib.hid htt
            have HLV := Lib.hid hll
            clear htt hll
            refine wp_region_held_drew (S := fun w' => w'.cell? ⟨gh, k, none⟩ = some (.int .i64 h0) ∧ w'.cell? ⟨g6, 0, none⟩ = some (.int .i64 x.op) ∧ w'.cell? ⟨g6, 1, none⟩ = some (.int .i64 x.a) ∧ w'.cell? ⟨g6, 2, none⟩ = some (.int .i64 x.b) ∧ w'.cell? ⟨g6, 3, none⟩ = some (.int .i64 x.c)) (by kernel_rfl) ?_ (fun hHeld => ?_)
            · exact sE
            refine wpAnyH_take (i := 0) (v := ?_) rfl (by kernel_rfl) (by kernel_rfl) (by kernel_rfl) (fun _ _ _ h => h) (Or.inl ⟨by rfl, ?_⟩) (by assumption) ?_
            rotate_left
            · intro w' hSw
              (try dsimp only at hSw)
              go_simp
              try with_reducible rfl
            try simp only [Act.put, List.getElem_toArray, List.getElem_cons_zero, List.setIfInBounds_toArray, List.set_cons_zero, List.set_cons_succ]
            refine wpAnyH_take (i := 1) (v := ?_) rfl (by kernel_rfl) (by kernel_rfl) (by kernel_rfl) (fun _ _ _ h => h) (Or.inl ⟨by rfl, ?_⟩) (by assumption) ?_
            rotate_left
            · intro w' hSw
              (try dsimp only at hSw)
              go_simp
              try with_reducible rfl
            try simp only [Act.put, List.getElem_toArray, List.getElem_cons_zero, List.getElem_cons_succ, List.setIfInBounds_toArray, List.set_cons_zero, List.set_cons_succ]
            refine wpAnyH_take (i := 2) (v := ?_) rfl (by kernel_rfl) (by kernel_rfl) (by kernel_rfl) (fun _ _ _ h => h) (Or.inl ⟨by rfl, ?_⟩) (by assumption) ?_
            rotate_left
            · intro w' hSw
              (try dsimp only at hSw)
              go_simp
              try with_reducible rfl
            try simp only [Act.put, List.getElem_toArray, List.getElem_cons_zero, List.getElem_cons_succ, List.setIfInBounds_toArray, List.set_cons_zero, List.set_cons_succ]
            refine wpAnyH_take (i := 3) (v := ?_) rfl (by kernel_rfl) (by kernel_rfl) (by kernel_rfl) (fun _ _ _ h => h) (Or.inl ⟨by rfl, ?_⟩) (by assumption) ?_
            rotate_left
            · intro w' hSw
              (try dsimp only at hSw)
              go_simp
              try with_reducible rfl
            try simp only [Act.put, List.getElem_toArray, List.getElem_cons_zero, List.getElem_cons_succ, List.setIfInBounds_toArray, List.set_cons_zero, List.set_cons_succ]
            refine wpAnyH_take (i := 4) (v := ?_) rfl (by kernel_rfl) (by kernel_rfl) (by kernel_rfl) (fun _ _ _ h => h) (Or.inl ⟨by rfl, ?_⟩) (by assumption) ?_
            rotate_left
            · intro w' hSw
              (try dsimp only at hSw)
              go_simp
              try with_reducible rfl
            try simp only [Act.put, List.getElem_toArray, List.getElem_cons_zero, List.getElem_cons_succ, List.setIfInBounds_toArray, List.set_cons_zero, List.set_cons_succ]
            refine wpAnyH_ready (rs := [5]) (by kernel_rfl) (by simp) ?_
            refine (AllReadyH.cons rfl (fun K hK => ?_) AllReadyH.nil)
            have HKK := Lib.hid hK
            clear hK
            go_simp
            refine (takes_any x _).mono ?_
            rintro e w5 ⟨rfl, hb5⟩
            try dsimp only
            rw [HTK.out]
            have N1 := Lib.hid (N0.out.below hb5)
            clear hb5
            have sF : w5.cell? ⟨gh, k, none⟩ = some (.int .i64 h0) ∧ w5.cell? ⟨g6, 0, none⟩ = some (.int .i64 x.op) ∧ w5.cell? ⟨g6, 1, none⟩ = some (.int .i64 x.a) ∧ w5.cell? ⟨g6, 2, none⟩ = some (.int .i64 x.b) ∧ w5.cell? ⟨g6, 3, none⟩ = some (.int .i64 x.c) := ⟨by rw [← HQ.out]; exact own_at (N1.out.rowO 0 rfl) (show k < n + 1 by omega), N1.out.cellK 0 rfl 0, N1.out.cellK 0 rfl 1, N1.out.cellK 0 rfl 2, N1.out.cellK 0 rfl 3⟩
            refine HKK.out _ _ sF (fun hHeld => ?_)
            clear HKK K
            try simp only [Act.put, List.getElem_toArray, List.getElem_cons_zero, List.getElem_cons_succ, List.setIfInBounds_toArray, List.set_cons_zero, List.set_cons_succ]
            refine wpAnyH_take (i := 6) (v := ?_) rfl (by kernel_rfl) (by kernel_rfl) (by kernel_rfl) (fun _ _ _ h => h) (Or.inl ⟨by rfl, ?_⟩) (by assumption) ?_
            rotate_left
            · intro w' hSw
              (try dsimp only at hSw)
              go_simp
              try with_reducible rfl
            try simp only [Act.put, List.getElem_toArray, List.getElem_cons_zero, List.getElem_cons_succ, List.setIfInBounds_toArray, List.set_cons_zero, List.set_cons_succ]
            refine wpAnyH_take (i := 7) (v := ?_) rfl (by kernel_rfl) (by kernel_rfl) (by kernel_rfl) (fun _ _ _ h => h) (Or.inl ⟨by rfl, ?_⟩) (by assumption) ?_
            rotate_left
            · intro w' hSw
              (try dsimp only at hSw)
              go_simp
              try with_reducible rfl
            try simp only [Act.put, List.getElem_toArray, List.getElem_cons_zero, List.getElem_cons_succ, List.setIfInBounds_toArray, List.set_cons_zero, List.set_cons_succ]
            refine wpAnyH_done (by kernel_rfl) ?_ _
            go_upto_region 13 with fail
            clear hHeld sE hwt N0
            obtain ⟨h1, hh1⟩ : ∃ h1, h0 - tk = h1 := ⟨_, rfl⟩
            rw [hh1]
            have HH1 := Lib.hid hh1
            have hr1 : -4 ≤ h1 ∧ h1 ≤ 1000 := by omega
            obtain ⟨hr1, hr2⟩ := hr1
            clear hh1
            have x0 : w5.cell? ⟨g6, 0, none⟩ = some (.int .i64 x.op) := N1.out.cellK 0 rfl 0
            have x1 : w5.cell? ⟨g6, 1, none⟩ = some (.int .i64 x.a) := N1.out.cellK 0 rfl 1
            have x2 : w5.cell? ⟨g6, 2, none⟩ = some (.int .i64 x.b) := N1.out.cellK 0 rfl 2
            have x3 : w5.cell? ⟨g6, 3, none⟩ = some (.int .i64 x.c) := N1.out.cellK 0 rfl 3
            by_cases hlow : h1 < 0
            · have HLOW := Lib.hid hlow
              have hF : Hid (R = false) := Lib.hid (by
                rw [← HR.out]
                refine lev_false (k := k + 1) ?_ (by rw [HTL.out]; omega)
                rw [HSN.out]
                unfold stepF
                rw [HQ.out, HTK.out, HLV.out, HH1.out, if_neg (by omega), if_pos (.inl HLOW.out)])
              go_wp2
              go_ret
              exact ⟨ret_bool (by rw [hF.out]), N1.out.bel⟩
            · go_wp2_with fail
              refine (leaves_any x w5).mono ?_
              rintro e w6 ⟨rfl, hb⟩
              dsimp only
              rw [HLV.out]
              have N2 := Lib.hid (N1.out.below hb)
              clear hb N1 x0 x1 x2 x3
              have hsum : Hid (h1 + lv = h0 - tk + lv) := Lib.hid (by rw [HH1.out])
              by_cases hhigh : 1000 < h1 + lv
              · have HHIGH := Lib.hid hhigh
                have hF : Hid (R = false) := Lib.hid (by
                  rw [← HR.out]
                  refine lev_false (k := k + 1) ?_ (by rw [HTL.out]; omega)
                  rw [HSN.out]
                  unfold stepF
                  rw [HQ.out, HTK.out, HLV.out, HH1.out, if_neg (by omega), if_pos (.inr HHIGH.out)])
                go_wp2
                go_ret
                exact ⟨ret_bool (by rw [hF.out]), N2.out.bel⟩
              · have x0 : w6.cell? ⟨g6, 0, none⟩ = some (.int .i64 x.op) := N2.out.cellK 0 rfl 0
                have x1 : w6.cell? ⟨g6, 1, none⟩ = some (.int .i64 x.a) := N2.out.cellK 0 rfl 1
                have x2 : w6.cell? ⟨g6, 2, none⟩ = some (.int .i64 x.b) := N2.out.cellK 0 rfl 2
                have x3 : w6.cell? ⟨g6, 3, none⟩ = some (.int .i64 x.c) := N2.out.cellK 0 rfl 3
                go_wp2_with fail
                refine (leaves_any x w6).mono ?_
                rintro e w7 ⟨rfl, hb⟩
                dsimp only
                rw [HLV.out]
                have N3 := Lib.hid (N2.out.below hb)
                clear hb N2 x0 x1 x2 x3
                obtain ⟨h, hhh⟩ : ∃ h, h1 + lv = h := ⟨_, rfl⟩
                have hz0 : 0 ≤ h := by omega
                have hz1 : h ≤ 1000 := by omega
                have HST : Hid (stepF H k x = if okAll H (tsF k x) h then some (setAll H (tsF k x) h) else none) := Lib.hid (by
                  unfold stepF
                  rw [HQ.out, HTK.out, HLV.out, HH1.out, hhh, if_neg (by omega), if_neg (by omega)])
                go_upto_region 16 with fail
                try rw [hhh]
                clear hhh hlow hhigh hsum
                have NC : Hid (Mem w w7 [⟨g6, 50, #[.int .i64 x.op, .int .i64 x.a, .int .i64 x.b, .int .i64 x.c]⟩] [⟨3, 1, none, 0, 0, ints ([] : List Int)⟩, ⟨3, 1, some ⟨gh, 0, none⟩, n + 1, n + 1, ints H⟩]) := Lib.hid (N3.out.nilO 3 1)
                clear N3
                have HL8 : Hid (([] : List Int).length = 0) := rfl
                have hl8 : 0 ≤ 2 := by omega
                have y0 : w7.cell? ⟨g6, 0, none⟩ = some (.int .i64 x.op) := NC.out.cellK 0 rfl 0
                have y1 : w7.cell? ⟨g6, 1, none⟩ = some (.int .i64 x.a) := NC.out.cellK 0 rfl 1
                have y2 : w7.cell? ⟨g6, 2, none⟩ = some (.int .i64 x.b) := NC.out.cellK 0 rfl 2
                go_upto_if 62 with fail
                go_cut [8] from 60 to 67 (fun v8 wc => ∃ A8 c8, v8 = .slice A8 (ts1 k x).length c8 ∧ Hid (Mem w wc [⟨g6, 50, #[.int .i64 x.op, .int .i64 x.a, .int .i64 x.b, .int .i64 x.c]⟩] [⟨3, 1, A8, (ts1 k x).length, c8, ints (ts1 k x)⟩, ⟨3, 1, some ⟨gh, 0, none⟩, n + 1, n + 1, ints H⟩]))
                case first =>
                  by_cases hc : ¬ x.op = 11
                  · have E := Lib.hid (show ts1 k x = [] ++ [(k : Int) + 1] by simp [ts1, hc])
                    have z11 : (x.op != 11) = true := by simp [hc]
                    clear hc
                    go_wp2_with (at_builtin; refine wpList_append_rd _ rfl (.tmp 63) (.tmp 66) 25 rfl w.heap.size 3 i0 _ 1 8 Tryd.underlying25 hi0 hz0' hz1' hz2' rfl (by omega) (.slice none 0 0) 0 (ints ([])) rfl ((NC.out.rowO 0 rfl).alloc _) _ 1 1 [.int .i64 ((k : Int) + 1)] rfl (rd_new _ _ _) (by simp [Value.oneCell']) (by unfold maxLen; omega) (by omega) (Nat.le_trans NC.out.base (by simp)) ?_; intro v' wy ho hg hat; obtain ⟨A9, c9, rfl, _⟩ := own_shape ho; have N5 := Lib.hid (NC.out.appd hg ho (by simpa using hat)); clear ho hg hat)
                    clear NC
                    go_wp2
                    go_meet
                    refine ⟨A9, c9, ?_, ?_⟩
                    · rw [E.out, List.length_append, HL8.out]; rfl
                    · rw [E.out, List.length_append, HL8.out]
                      rw [show ints ([] ++ [(k : Int) + 1]) = ints ([]) ++ [Value.int .i64 ((k : Int) + 1)] from by simp [ints]]
                      exact N5.out
                  · have E := Lib.hid (show ts1 k x = [] by simp [ts1, hc])
                    have z11 : (x.op != 11) = false := by simp; omega
                    clear hc
                    go_wp2
                    go_meet
                    exact ⟨none, 0, by rw [E.out, HL8.out], by rw [E.out, HL8.out]; exact NC⟩
                case rest =>
                  clear NC y0 y1 y2 HL8 hl8
                  obtain ⟨A8, c8, rfl, NC⟩ := hcut
                  obtain ⟨l8, hl8⟩ : ∃ l8, (ts1 k x).length = l8 := ⟨_, rfl⟩
                  have HL8 := Lib.hid hl8
                  rw [hl8] at NC ⊢
                  have hl8 : l8 ≤ 1 := by rw [← HL8.out]; exact ts1_len k x
                  have y0 : wc.cell? ⟨g6, 0, none⟩ = some (.int .i64 x.op) := NC.out.cellK 0 rfl 0
                  have y1 : wc.cell? ⟨g6, 1, none⟩ = some (.int .i64 x.a) := NC.out.cellK 0 rfl 1
                  have y2 : wc.cell? ⟨g6, 2, none⟩ = some (.int .i64 x.b) := NC.out.cellK 0 rfl 2
                  go_upto_region 19 with fail
                  go_cut [75] from 68 to 75 (fun v wz => ∃ zb : Bool, v = .bool zb ∧ Hid (zb = (x.op == 11 || x.op == 12)) ∧ wz = wc)
                  case first =>
                    cases hz : (x.op == 11)
                    · go_wp2
                      go_meet
                      exact ⟨_, rfl, Lib.hid (by simp [hz]), rfl⟩
                    · go_wp2
                      go_meet
                      exact ⟨_, rfl, Lib.hid (by simp [hz]), rfl⟩
                  case rest =>
                    obtain ⟨zb, rfl, HZB, hwz⟩ := hcut
                    subst hwz
                    go_upto_if 75 with fail
                    go_cut [8] from 68 to 80 (fun v8 wc => ∃ A8 c8, v8 = .slice A8 (ts2 k x).length c8 ∧ Hid (Mem w wc [⟨g6, 50, #[.int .i64 x.op, .int .i64 x.a, .int .i64 x.b, .int .i64 x.c]⟩] [⟨3, 1, A8, (ts2 k x).length, c8, ints (ts2 k x)⟩, ⟨3, 1, some ⟨gh, 0, none⟩, n + 1, n + 1, ints H⟩]))
                    case first =>
                      by_cases hc : x.op = 11 ∨ x.op = 12
                      · have E := Lib.hid (show ts2 k x = ts1 k x ++ [x.a] by simp [ts1, ts2, hc])
                        have z11 : zb = true := by rw [HZB.out]; rcases hc with h | h <;> simp [h]
                        subst z11
                        clear hc
                        go_wp2_with (at_builtin; refine wpList_append_rd _ rfl (.tmp 76) (.tmp 79) 25 rfl w.heap.size 3 i0 _ 1 8 Tryd.underlying25 hi0 hz0' hz1' hz2' rfl (by omega) (.slice A8 l8 c8) l8 (ints (ts1 k x)) rfl ((NC.out.rowO 0 rfl).alloc _) _ 1 1 [.int .i64 (x.a)] rfl (rd_new _ _ _) (by simp [Value.oneCell']) (by unfold maxLen; omega) (by omega) (Nat.le_trans NC.out.base (by simp)) ?_; intro v' wy ho hg hat; obtain ⟨A9, c9, rfl, _⟩ := own_shape ho; have N5 := Lib.hid (NC.out.appd hg ho (by simpa using hat)); clear ho hg hat)
                        clear NC
                        go_wp2
                        go_meet
                        refine ⟨A9, c9, ?_, ?_⟩
                        · rw [E.out, List.length_append, HL8.out]; rfl
                        · rw [E.out, List.length_append, HL8.out]
                          rw [show ints (ts1 k x ++ [x.a]) = ints (ts1 k x) ++ [Value.int .i64 (x.a)] from by simp [ints]]
                          exact N5.out
                      · have E := Lib.hid (show ts2 k x = ts1 k x by simp [ts1, ts2, hc])
                        have z11 : zb = false := by rw [HZB.out]; simp; omega
                        subst z11
                        clear hc
                        go_wp2
                        go_meet
                        exact ⟨A8, c8, by rw [E.out, HL8.out], by rw [E.out, HL8.out]; exact NC⟩
                    case rest =>
                      clear NC y0 y1 y2 HL8 hl8
                      obtain ⟨A8, c8, rfl, NC⟩ := hcut
                      obtain ⟨l8, hl8⟩ : ∃ l8, (ts2 k x).length = l8 := ⟨_, rfl⟩
                      have HL8 := Lib.hid hl8
                      rw [hl8] at NC ⊢
                      have hl8 : l8 ≤ 2 := by rw [← HL8.out]; exact ts2_len k x
                      have y0 : wc.cell? ⟨g6, 0, none⟩ = some (.int .i64 x.op) := NC.out.cellK 0 rfl 0
                      have y1 : wc.cell? ⟨g6, 1, none⟩ = some (.int .i64 x.a) := NC.out.cellK 0 rfl 1
                      have y2 : wc.cell? ⟨g6, 2, none⟩ = some (.int .i64 x.b) := NC.out.cellK 0 rfl 2
                      go_upto_if 83 with fail
                      go_cut [8] from 81 to 88 (fun v8 wc => ∃ A8 c8, v8 = .slice A8 (tsF k x).length c8 ∧ Hid (Mem w wc [⟨g6, 50, #[.int .i64 x.op, .int .i64 x.a, .int .i64 x.b, .int .i64 x.c]⟩] [⟨3, 1, A8, (tsF k x).length, c8, ints (tsF k x)⟩, ⟨3, 1, some ⟨gh, 0, none⟩, n + 1, n + 1, ints H⟩]))
                      case first =>
                        by_cases hc : x.op = 14
                        · have E := Lib.hid (show tsF k x = ts2 k x ++ [x.b] by simp [ts1, ts2, tsF, hc])
                          have z14 : (x.op == 14) = true := by simp [hc]
                          clear hc
                          go_wp2_with (at_builtin; refine wpList_append_rd _ rfl (.tmp 84) (.tmp 87) 25 rfl w.heap.size 3 i0 _ 1 8 Tryd.underlying25 hi0 hz0' hz1' hz2' rfl (by omega) (.slice A8 l8 c8) l8 (ints (ts2 k x)) rfl ((NC.out.rowO 0 rfl).alloc _) _ 1 1 [.int .i64 (x.b)] rfl (rd_new _ _ _) (by simp [Value.oneCell']) (by unfold maxLen; omega) (by omega) (Nat.le_trans NC.out.base (by simp)) ?_; intro v' wy ho hg hat; obtain ⟨A9, c9, rfl, _⟩ := own_shape ho; have N5 := Lib.hid (NC.out.appd hg ho (by simpa using hat)); clear ho hg hat)
                          clear NC
                          go_wp2
                          go_meet
                          refine ⟨A9, c9, ?_, ?_⟩
                          · rw [E.out, List.length_append, HL8.out]; rfl
                          · rw [E.out, List.length_append, HL8.out]
                            rw [show ints (ts2 k x ++ [x.b]) = ints (ts2 k x) ++ [Value.int .i64 (x.b)] from by simp [ints]]
                            exact N5.out
                        · have E := Lib.hid (show tsF k x = ts2 k x by simp [ts1, ts2, tsF, hc])
                          have z14 : (x.op == 14) = false := by simp [hc]
                          clear hc
                          go_wp2
                          go_meet
                          exact ⟨A8, c8, by rw [E.out, HL8.out], by rw [E.out, HL8.out]; exact NC⟩
                      case rest =>
                        clear NC y0 y1 y2 HL8 hl8
                        obtain ⟨A8, c8, rfl, NC⟩ := hcut
                        have htl2 := ts_len k x
                        generalize hts : tsF k x = ts at *
                        have HTSE := Lib.hid hts
                        clear hts
                        obtain ⟨m, hm⟩ : ∃ m, ts.length = m := ⟨_, rfl⟩
                        rw [hm] at NC htl2 ⊢
                        have HM := Lib.hid hm
                        clear hm
                        have N5 : Hid (Mem w wc [] [⟨3, 1, A8, m, c8, ints ts⟩, ⟨3, 1, some ⟨gh, 0, none⟩, n + 1, n + 1, ints (setAll H (ts.take 0) h)⟩]) := Lib.hid NC.out.rows
                        clear NC
                        go_wp2
                        go_loopw [9] (fun v9 wr => ∃ j : Nat, j ≤ m ∧ v9 = .int .i64 j ∧ Hid (okAll H (ts.take j) h) ∧ Hid (Mem w wr [] [⟨3, 1, A8, m, c8, ints ts⟩, ⟨3, 1, some ⟨gh, 0, none⟩, n + 1, n + 1, ints (setAll H (ts.take j) h)⟩])) (fun v9 _ => m - (intOf v9).toNat)
                        case atStart => exact ⟨0, Nat.zero_le _, rfl, Lib.hid (fun t ht => by simp at ht), N5⟩
                        case round =>
                          clear N5
                          obtain ⟨j, hj, rfl, HOK, N5⟩ := hrel
                          by_cases hjm : j < m
                          · obtain ⟨g8, rfl, hg1, hg2⟩ := own_head (N5.out.rowO 0 rfl) (by omega)
                            have ht : ts[j]? = some (ts[j]'(by rw [HM.out]; exact hjm)) := List.getElem?_eq_getElem _
                            obtain ⟨t, htt⟩ : ∃ t, ts[j]'(by rw [HM.out]; exact hjm) = t := ⟨_, rfl⟩
                            rw [htt] at ht
                            have HTT := Lib.hid ht
                            obtain ⟨ht0, htn⟩ := HTSB.out t (List.mem_of_getElem? ht)
                            rw [HTL.out] at htn
                            have hut : wr.cell? ⟨g8, j, none⟩ = some (.int .i64 t) := by
                              have h := (N5.out.rdO 0 rfl).2 (by omega)
                              obtain ⟨b9, o9, e9, hc9⟩ := h
                              injection e9 with e9
                              injection e9 with e8 e9
                              subst e8 e9
                              have := hc9 j (.int .i64 t) (by simp [ints, ht])
                              rwa [Nat.zero_add] at this
                            clear htt ht
                            obtain ⟨tn, rfl⟩ : ∃ tn : Nat, t = (tn : Int) := ⟨t.toNat, by omega⟩
                            have huv := own_at (N5.out.rowO 1 rfl) (show tn < n + 1 by omega)
                            have hfz := (N5.out.rowO 1 rfl).frozenAt tn
                            have hva := hAt_all (h := h) (H := H) (ts := ts.take j) (s := (tn : Int)) (fun t ht => by
                              have := HTSB.out t (mem_take ht)
                              rw [HTL.out] at this
                              rw [hlen]
                              omega) (by omega)
                            generalize hvv : hAt (setAll H (ts.take j) h) (tn : Int) = v at huv hva
                            have HVA := Lib.hid hva
                            have hj0 : (0 : Int) ≤ (j : Int) := by omega
                            have hjm2 : (j : Int) < (m : Int) := by omega
                            have htn2 : (tn : Int) < (n : Int) + 1 := by omega
                            clear hvv hva
                            have MS : Hid (Mem w (wr.setCell ⟨gh, tn, none⟩ (.int .i64 h)) [] [⟨3, 1, some ⟨g8, 0, none⟩, m, c8, ints ts⟩, ⟨3, 1, some ⟨gh, 0, none⟩, n + 1, n + 1, ints (setAll H (ts.take (j + 1)) h)⟩]) := Lib.hid (by
                              have hp := ((N5.out.upO 1 rfl).put (j := tn) (.int .i64 h)).upO 1 rfl
                              rw [ints_set] at hp
                              rw [set_snoc HTT.out]
                              exact hp)
                            by_cases hok : v < 0 ∨ v = h
                            · have HOK2 : Hid (okAll H (ts.take (j + 1)) h) := Lib.hid (fun t ht => by
                                rw [take_snoc HTT.out] at ht
                                rcases List.mem_append.1 ht with h3 | h3
                                · exact HOK.out t h3
                                · obtain rfl := List.mem_singleton.1 h3
                                  by_cases hin : (tn : Int) ∈ ts.take j
                                  · exact HOK.out _ hin
                                  · have := HVA.out
                                    rw [if_neg hin] at this
                                    rw [← this]
                                    exact hok)
                              by_cases hv0 : v < 0
                              · have hv1 : ¬ (0 : Int) ≤ v := by omega
                                clear hok
                                go_wp2
                                go_roundw
                                case rel => exact ⟨j + 1, by omega, by go_num, HOK2, MS⟩
                                case measure => simp [intOf]; omega
                              · have hv1 : (0 : Int) ≤ v := by omega
                                have hv2 : (v != h) = false := by simp; omega
                                clear hok
                                go_wp2
                                go_roundw
                                case rel => exact ⟨j + 1, by omega, by go_num, HOK2, MS⟩
                                case measure => simp [intOf]; omega
                            · have hv1 : (0 : Int) ≤ v := by omega
                              have hv2 : (v != h) = true := by simp; omega
                              have hF : Hid (R = false) := Lib.hid (by
                                rw [← HR.out]
                                refine lev_false (k := k + 1) ?_ (by rw [HTL.out]; omega)
                                rw [HSN.out, HST.out, if_neg]
                                intro hall
                                have h3 := hall (tn : Int) (List.mem_of_getElem? HTT.out)
                                have h4 := HVA.out
                                by_cases hin : (tn : Int) ∈ ts.take j
                                · rw [if_pos hin] at h4; exact hok (.inr h4)
                                · rw [if_neg hin] at h4; rw [← h4] at h3; exact hok h3)
                              have NB := Lib.hid N5.out.bel
                              clear hok MS N5
                              go_wp2
                              go_ret
                              exact ⟨ret_bool (by rw [hF.out]), NB.out⟩
                          · obtain rfl : j = m := by omega
                            have hjj : ¬ (j : Int) < (j : Int) := by omega
                            have HN : Hid (levTo T (k + 1) = some (setAll H ts h)) := Lib.hid (by
                              have h3 := HOK.out
                              rw [show ts.take j = ts from List.take_of_length_le (by rw [HM.out]; exact Nat.le_refl _)] at h3
                              rw [HSN.out, HST.out, if_pos h3])
                            have M9 : Hid (Mem w wr [] [⟨3, 1, some ⟨gh, 0, none⟩, n + 1, n + 1, ints (setAll H ts h)⟩]) := Lib.hid (by
                              have h3 := N5.out.delO 0
                              rw [show ts.take j = ts from List.take_of_length_le (by rw [HM.out]; exact Nat.le_refl _)] at h3
                              exact h3)
                            clear N5
                            go_wp2
                            go_roundw
                            case rel => exact ⟨k + 1, setAll H ts h, by omega, by go_num, HN, M9⟩
                            case measure => simp [intOf]; omega
        · obtain rfl : k = n := by omega
          have hkk : ¬ (k : Int) < (k : Int) := by omega
          have hu := own_at (M0.out.rowO 0 rfl) (show k < k + 1 by omega)
          have hF : Hid (R = decide (hAt H (k : Int) ≤ 0)) := Lib.hid (by
            rw [← HR.out]
            unfold levF
            rw [HTL.out, HL.out])
          have hn1 : (k : Int) < (k : Int) + 1 := by omega
          have hk0 : (0 : Int) ≤ (k : Int) := by omega
          go_wp2
          go_ret
          exact ⟨ret_bool (by rw [hF.out]), M0.out.bel⟩
end Go.Proofs.YtiogcbckhaknmaaDoor.Vf
