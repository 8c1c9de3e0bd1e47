/-
  The program's Verify. Conditions: the code reads, within the reach.
-/
import Derived.Test.YtiogcbckhaknmaaDoorVfJ
import Derived.Test.YtiogcbckhaknmaaDoorVfE
namespace Go.Proofs.YtiogcbckhaknmaaDoor.Vf
open Go.RowKit Go.Proofs.YtiogcbckhaknmaaDoor.W Go.Proofs.YtiogcbckhaknmaaDoor.Ints Go.Proofs.YtiogcbckhaknmaaDoor.Cod Go.Proofs.YtiogcbckhaknmaaDoor.Cell

set_option maxRecDepth 100000 in
set_option maxHeartbeats 25600000 in
theorem Verify_any (A : Option Addr) (N c : Nat) (vs : List PV) (ps : List PD) (m : Int) (w : World) (hC : CRd w A N vs ps) (hok : ∀ p ∈ ps, p.ok) (hN : N * 96 ≤ 140737488351232) (hm : w.cell? ⟨0, 0, none⟩ = some (.int .i64 m)) :
    Calls Tryd.prog 7 #[.agg #[.slice A N c]] w fun e w' => ∃ o, Out ps o ∧ OutR w w' e o := by
  obtain ⟨i0, hI0, hz0, hz1, hz2⟩ := info_parts int_info
  have HM : Hid (∀ w', Below w.heap.size w w' → w'.cell? ⟨0, 0, none⟩ = some (.int .i64 m)) := Lib.hid fun w' h => (h.cell (lt_of_cell hm)).trans hm
  have HC := Lib.hid hC
  have HOK := Lib.hid hok
  have HLEN : Hid (ps.length = N) := hC.len
  clear hC hok hm
  go_enter Tryd.func7, Tryd.ntmps7
  go_upto_region 1 with fail
  have M0 := Lib.hid ((((Mem.start w).alloc 24 #[.slice A N c]).alloc 28 #[.int .i64 0, .int .i64 0, .int .i64 0]))
  simp only [World.size_alloc] at M0
  generalize World.alloc (World.alloc _ _) _ = w1 at M0 ⊢
  generalize w.heap.size = gb at M0 ⊢
  have x0 : w1.cell? ⟨gb, 0, none⟩ = some (.slice A N c) := M0.out.cellK 1 rfl 0
  by_cases h16 : 16 < N
  · have h16i : (16 : Int) < (N : Int) := by omega
    have HO := Lib.hid (Out.great (ps := ps) (by rw [HLEN.out]; exact h16))
    have bz := M0.out.cellK 0 rfl
    have fz := M0.out.frozenK 0 rfl
    have kz := (M0.out.ltK 0 rfl).2
    have MS := Lib.hid (((M0.out.set (i := 0) (.int .i64 12)).set (i := 1) (.int .i64 0)).set (i := 2) (.int .i64 0))
    clear M0
    go_wp2
    refine bodyPost_ret (v := .tuple #[.slice none 0 0, .agg #[.int .i64 12, .int .i64 0, .int .i64 0]]) ?_ rfl ?_
    · simp [results, Tryd.results7, go_sem, bz]
    · exact ⟨_, HO.out, OutR.nil 12 0 rfl MS.out.bel⟩
  · have h16i : ¬ (16 : Int) < (N : Int) := by omega
    have M1 : Hid (∃ Ks, Mem w w1 (⟨gb + 1, 28, #[.int .i64 0, .int .i64 0, .int .i64 0]⟩ :: ⟨gb, 24, #[.slice A N c]⟩ :: Ks) [⟨3, 1, none, 0, 0, ints (natL [])⟩]) := Lib.hid ⟨_, M0.out.nilO 3 1⟩
    clear M0
    go_wp2
    clear x0
    go_loopw [4, 16] (fun v4 v16 wr => ∃ (k cB : Nat) (bs : List Nat) (B : Option Addr), k ≤ N ∧ v16 = .int .i64 k ∧ v4 = .slice B k cB ∧ Hid (VerR ps k bs) ∧ Hid (∃ Ks, Mem w wr (⟨gb + 1, 28, #[.int .i64 0, .int .i64 0, .int .i64 0]⟩ :: ⟨gb, 24, #[.slice A N c]⟩ :: Ks) [⟨3, 1, B, k, cB, ints (natL bs)⟩])) (fun _ v16 _ => N - (intOf v16).toNat)
    case atStart => exact ⟨0, 0, [], none, Nat.zero_le _, rfl, rfl, Lib.hid (ver_zero ps), M1⟩
    case round =>
      clear M1
      obtain ⟨k, cB, bs, B, hk, rfl, rfl, HV, M1⟩ := hrel
      obtain ⟨Ks, M1⟩ := M1.out
      have M1 := Lib.hid M1
      have x0 : wr.cell? ⟨gb, 0, none⟩ = some (.slice A N c) := M1.out.cellK 1 rfl 0
      by_cases hlt : k < N
      · obtain ⟨p, hp⟩ : ∃ p, ps[k]? = some p := ⟨_, List.getElem?_eq_getElem (by rw [HLEN.out]; exact hlt)⟩
        have HP := Lib.hid hp
        have hk0 : (0 : Int) ≤ (k : Int) := by omega
        have hkn : (k : Int) < (N : Int) := by omega
        clear hp
        go_wp2_with fail
        refine (look_any A N c vs ps k p B cB bs m wr (HC.out.below M1.out.bel) HOK.out hN HP.out (M1.out.rdO 0 rfl) HV.out (HM.out _ M1.out.bel)).mono ?_
        rintro e w5 ⟨hlook, hb5⟩
        have M5 := Lib.hid (M1.out.below hb5)
        clear hb5 M1 x0
        rcases hlook with ⟨hgood, hle, rfl⟩ | ⟨hgood, hle, rfl⟩ | ⟨hbad, rfl⟩
        · dsimp only
          have HVN := Lib.hid (ver_next HV.out HP.out hgood hle)
          obtain ⟨bd, hbd⟩ : ∃ bd, boundF p.text bs = bd := ⟨_, rfl⟩
          rw [hbd] at HVN hle ⊢
          have M7 := M5
          clear M5 hgood hbd
          go_wp2_with (at_builtin; refine wpList_append_rd _ rfl (.tmp 32) (.tmp 34) 25 rfl w.heap.size 3 i0 _ 1 8 Tryd.underlying25 hI0 hz0 hz1 hz2 rfl (by omega) (.slice B k cB) k (ints (natL bs)) rfl ((M7.out.rowO 0 rfl).alloc _) _ 1 1 [.int .i64 (bd : Int)] rfl (rd_new _ _ _) (by simp [Value.oneCell']) (by unfold maxLen; omega) (by omega) (Nat.le_trans M7.out.base (by simp)) ?_; intro v' wy ho hg hat; obtain ⟨B9, c9, rfl, _⟩ := own_shape ho; have M8 := Lib.hid ((M7.out.appd hg ho (by simpa using hat))); clear ho hg hat)
          have MF : Hid (∃ Ks, Mem w wy (⟨gb + 1, 28, #[.int .i64 0, .int .i64 0, .int .i64 0]⟩ :: ⟨gb, 24, #[.slice A N c]⟩ :: Ks) [⟨3, 1, B9, k + 1, c9, ints (natL (bs ++ [bd]))⟩]) := Lib.hid ⟨_, by
            simpa [ints, natL] using M8.out⟩
          clear M8 M7
          go_wp2
          go_roundw
          case rel => exact ⟨k + 1, c9, bs ++ [bd], B9, by omega, by go_num, rfl, HVN, MF⟩
          case measure => simp [intOf]; omega
        · dsimp only
          have HO := Lib.hid (Out.slow (ps := ps) k bs p (by rw [HLEN.out]; omega) HV.out HP.out hgood hle)
          have bz := M5.out.cellK 0 rfl
          have fz := M5.out.frozenK 0 rfl
          have kz := (M5.out.ltK 0 rfl).2
          have MS := Lib.hid (((M5.out.set (i := 0) (.int .i64 13)).set (i := 1) (.int .i64 k)).set (i := 2) (.int .i64 0))
          clear M5 hgood hle
          go_wp2
          refine bodyPost_ret (v := .tuple #[.slice none 0 0, .agg #[.int .i64 13, .int .i64 k, .int .i64 0]]) ?_ rfl ?_
          · simp [results, Tryd.results7, go_sem, bz]
          · exact ⟨_, HO.out, OutR.nil 13 k rfl MS.out.bel⟩
        · dsimp only
          have HO := Lib.hid (Out.bad (ps := ps) k bs p (by rw [HLEN.out]; omega) HV.out HP.out hbad)
          have bz := M5.out.cellK 0 rfl
          have fz := M5.out.frozenK 0 rfl
          have kz := (M5.out.ltK 0 rfl).2
          have MS := Lib.hid (((M5.out.set (i := 0) (.int .i64 12)).set (i := 1) (.int .i64 k)).set (i := 2) (.int .i64 0))
          clear M5 hbad
          go_wp2
          refine bodyPost_ret (v := .tuple #[.slice none 0 0, .agg #[.int .i64 12, .int .i64 k, .int .i64 0]]) ?_ rfl ?_
          · simp [results, Tryd.results7, go_sem, bz]
          · exact ⟨_, HO.out, OutR.nil 12 k rfl MS.out.bel⟩
      · obtain rfl : k = N := by omega
        have hkk : ¬ (k : Int) < (k : Int) := by omega
        have HO := Lib.hid (Out.all (ps := ps) bs (by rw [HLEN.out]; omega) (by rw [HLEN.out]; exact HV.out))
        have HBL := Lib.hid HV.out.len
        have bz := M1.out.cellK 0 rfl
        have fz := M1.out.frozenK 0 rfl
        have kz := (M1.out.ltK 0 rfl).2
        have MS := Lib.hid (((M1.out.set (i := 0) (.int .i64 0)).set (i := 1) (.int .i64 0)).set (i := 2) (.int .i64 0))
        clear M1
        go_wp2
        refine bodyPost_ret (v := .tuple #[.slice B k cB, .agg #[.int .i64 0, .int .i64 0, .int .i64 0]]) ?_ rfl ?_
        · simp [results, Tryd.results7, go_sem, bz]
        · refine ⟨_, HO.out, B, cB, ?_, ?_⟩
          · rw [HBL.out]
          · rw [HBL.out]
            exact MS.out.rows
end Go.Proofs.YtiogcbckhaknmaaDoor.Vf
