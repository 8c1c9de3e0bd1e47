/-
  The words of a standard block by its number: the program's and the reference's. Conditions: the variable that holds the length of the library's longest quick search reads.
-/
import Derived.Test.YtiogcbckhaknmaaDoorBlk4
import Derived.Test.YtiogcbckhaknmaaDoorVf1
import Derived.Test.YtiogcbckhaknmaaDoorMem2
namespace Go.Proofs.YtiogcbckhaknmaaDoor.Vf
open Go.RowKit Go.Proofs.YtiogcbckhaknmaaDoor.W Go.Proofs.YtiogcbckhaknmaaDoor.Ints Go.Proofs.YtiogcbckhaknmaaDoor.Cod Go.Proofs.YtiogcbckhaknmaaDoor.Cell Go.Proofs.YtiogcbckhaknmaaDoor.Blk

theorem std_tab : ((List.range 12).all fun k => match bts[k]? with | some b => decide ((((pinsL b.ins).length + (pinsL b.outs).length + (pinsL b.st).length : Nat) : Int) = stdL.getD k 0) | none => false) = true := by kernel_rfl
theorem std_row {k : Int} (h1 : 1 ≤ k) (h2 : k ≤ 12) : ∃ b, bts[(k - 1).toNat]? = some b ∧ b ∈ bts ∧ (((pinsL b.ins).length + (pinsL b.outs).length + (pinsL b.st).length : Nat) : Int) = stdF k := by
  have h := List.all_eq_true.1 std_tab (k - 1).toNat (List.mem_range.2 (by omega))
  split at h
  · rename_i b hb
    refine ⟨b, hb, List.mem_of_getElem? hb, ?_⟩
    have hn : ¬ (k < 1 ∨ 12 < k) := by omega
    rw [of_decide_eq_true h]
    simp [stdF, hn]
  · cases h
set_option maxRecDepth 100000 in
set_option maxHeartbeats 3200000 in
theorem standard_any {k : Int} (h1 : 1 ≤ k) (h2 : k ≤ 12) {b : BT} (hb : bts[(k - 1).toNat]? = some b) (w : World) :
    Calls Tryd.prog 49 #[.int .i64 k] w fun e w' => e = .returned (.string b.nm) ∧ w = w' := by
  have hix : (Instr.index 99 (.agg #[.string { data := #[] }, .string { data := #[116, 111, 110] }, .string { data := #[116, 111, 102] }, .string { data := #[116, 112] }, .string { data := #[99, 116, 117] }, .string { data := #[99, 116, 100] }, .string { data := #[99, 116, 117, 100] }, .string { data := #[114, 95, 116, 114, 105, 103] }, .string { data := #[102, 95, 116, 114, 105, 103] }, .string { data := #[115, 114] }, .string { data := #[114, 115] }, .string { data := #[114, 97, 109, 112] }, .string { data := #[104, 121, 115, 116] }]) (.int .i64 k)).run Tryd.prog w = .ok (.string b.nm) w := by
    have : k = 1 ∨ k = 2 ∨ k = 3 ∨ k = 4 ∨ k = 5 ∨ k = 6 ∨ k = 7 ∨ k = 8 ∨ k = 9 ∨ k = 10 ∨ k = 11 ∨ k = 12 := by omega
    rcases this with rfl | rfl | rfl | rfl | rfl | rfl | rfl | rfl | rfl | rfl | rfl | rfl
    all_goals
      obtain rfl := (Option.some.inj hb)
      change _ = _
      kernel_rfl
  clear h1 h2 hb
  go_enter Tryd.func49, Tryd.ntmps49
  go_wp2
  go_ret
  exact ⟨rfl, rfl⟩
set_option maxRecDepth 100000 in
set_option maxHeartbeats 3200000 in
theorem stdWords_any (k : Int) (m : Int) (w : World) (hm : w.cell? ⟨0, 0, none⟩ = some (.int .i64 m)) :
    Calls Tryd.prog 38 #[.int .i64 k] w fun e w' => e = .returned (.int .i64 (stdF k)) ∧ Below w.heap.size w w' := by
  by_cases h : k < 1
  · have hF : Hid (stdF k = 0) := by simp [Hid, stdF, h]
    go_enter Tryd.func38, Tryd.ntmps38
    go_wp2
    go_ret
    exact ⟨ret_int (by rw [hF.out]), Below.refl _ _⟩
  · by_cases h' : 12 < k
    · have hF : Hid (stdF k = 0) := by simp [Hid, stdF, h']
      go_enter Tryd.func38, Tryd.ntmps38
      go_wp2
      go_ret
      exact ⟨ret_int (by rw [hF.out]), Below.refl _ _⟩
    · obtain ⟨b, hb, hmem, hs⟩ := std_row (k := k) (by omega) (by omega)
      have HC := Lib.hid (fun w => standard_any (k := k) (by omega) (by omega) hb w)
      have HS := Lib.hid (fun w' hm' => shape_known hmem m w' hm')
      have HM := Lib.hid hm
      have hok := List.all_eq_true.1 bts_ok b hmem
      simp only [Bool.and_eq_true] at hok
      have p1 : (pinsL b.ins).length ≤ 100 := by have := hok.1.1; simp only [pinOkB, Bool.and_eq_true, decide_eq_true_eq] at this; simpa [pinsL] using this.1.2
      have p2 : (pinsL b.outs).length ≤ 100 := by have := hok.1.2; simp only [pinOkB, Bool.and_eq_true, decide_eq_true_eq] at this; simpa [pinsL] using this.1.2
      have p3 : (pinsL b.st).length ≤ 100 := by have := hok.2; simp only [pinOkB, Bool.and_eq_true, decide_eq_true_eq] at this; simpa [pinsL] using this.1.2
      clear hok hb hmem hm
      go_enter Tryd.func38, Tryd.ntmps38
      go_wp2_with fail
      refine (HC.out _).mono ?_
      rintro e w1 ⟨rfl, rfl⟩
      go_wp2_with fail
      refine (HS.out _ HM.out).mono ?_
      rintro e w2 ⟨A1, c1, A2, c2, A3, c3, Ks, rfl, hm2⟩
      dsimp only
      have M := Lib.hid (hm2.alloc 78 #[.slice A1 (pinsL b.ins).length c1, .slice A2 (pinsL b.outs).length c2, .slice A3 (pinsL b.st).length c3])
      clear hm2
      generalize (pinsL b.ins).length = n1 at *
      generalize (pinsL b.outs).length = n2 at *
      generalize (pinsL b.st).length = n3 at *
      have HE := Lib.hid hs
      clear hs
      go_upto_region 4 with fail
      generalize World.alloc _ _ = w3 at M ⊢
      generalize w2.heap.size = g at M ⊢
      have x0 : w3.cell? ⟨g, 0, none⟩ = some (.slice A1 n1 c1) := M.out.cellK 0 rfl 0
      have x1 : w3.cell? ⟨g, 1, none⟩ = some (.slice A2 n2 c2) := M.out.cellK 0 rfl 1
      have x2 : w3.cell? ⟨g, 2, none⟩ = some (.slice A3 n3 c3) := M.out.cellK 0 rfl 2
      go_wp2
      go_ret
      exact ⟨ret_int (by rw [← HE.out]; omega), M.out.bel⟩
theorem names_len : bts.length = 12 := by kernel_rfl
set_option maxRecDepth 100000 in
set_option maxHeartbeats 3200000 in
theorem BlockNames_any (w : World) : Calls Tryd.prog 33 #[] w fun e w' => ∃ g, e = .returned (.slice (some ⟨g, 0, none⟩) 12 12) ∧ Below w.heap.size w w' ∧ ∀ k b, bts[k]? = some b → w'.cell? ⟨g, k, none⟩ = some (.string b.nm) := by
  go_enter Tryd.func33, Tryd.ntmps33
  go_wp2
  go_ret
  refine ⟨_, rfl, below_alloc _, fun k b hb => ?_⟩
  have hk := (List.getElem?_eq_some_iff.1 hb).1
  rw [names_len] at hk
  have : k = 0 ∨ k = 1 ∨ k = 2 ∨ k = 3 ∨ k = 4 ∨ k = 5 ∨ k = 6 ∨ k = 7 ∨ k = 8 ∨ k = 9 ∨ k = 10 ∨ k = 11 := by omega
  rw [(Blk.new w _ _).cell]
  rcases this with rfl | rfl | rfl | rfl | rfl | rfl | rfl | rfl | rfl | rfl | rfl | rfl
  all_goals
    obtain rfl := (Option.some.inj hb)
    rfl
set_option maxRecDepth 100000 in
set_option maxHeartbeats 3200000 in
theorem StdSize_any (k : Int) (w : World) (hk : I64 k) :
    Calls Tryd.prog 26 #[.int .i64 k] w fun e w' => e = .returned (.int .i64 (stdF k)) ∧ Below w.heap.size w w' := by
  obtain ⟨hk1, hk2⟩ := hk
  by_cases h : k < 1
  · have hF : Hid (stdF k = 0) := by simp [Hid, stdF, h]
    go_enter Tryd.func26, Tryd.ntmps26
    go_wp2_with fail
    refine (BlockNames_any _).mono ?_
    rintro e w1 ⟨g, rfl, hb, _⟩
    go_wp2
    go_ret
    exact ⟨ret_int (by rw [hF.out]), hb⟩
  · by_cases h' : 12 < k
    · have hF : Hid (stdF k = 0) := by simp [Hid, stdF, h']
      go_enter Tryd.func26, Tryd.ntmps26
      go_wp2_with fail
      refine (BlockNames_any _).mono ?_
      rintro e w1 ⟨g, rfl, hb, _⟩
      go_wp2
      go_ret
      exact ⟨ret_int (by rw [hF.out]), hb⟩
    · obtain ⟨b, hb, hmem, hs⟩ := std_row (k := k) (by omega) (by omega)
      have HS := Lib.hid (fun w' => ref_known hmem w')
      have HB := Lib.hid hb
      have hok := List.all_eq_true.1 bts_ok b hmem
      simp only [Bool.and_eq_true] at hok
      have p1 : (pinsL b.ins).length ≤ 100 := by have := hok.1.1; simp only [pinOkB, Bool.and_eq_true, decide_eq_true_eq] at this; simpa [pinsL] using this.1.2
      have p2 : (pinsL b.outs).length ≤ 100 := by have := hok.1.2; simp only [pinOkB, Bool.and_eq_true, decide_eq_true_eq] at this; simpa [pinsL] using this.1.2
      have p3 : (pinsL b.st).length ≤ 100 := by have := hok.2; simp only [pinOkB, Bool.and_eq_true, decide_eq_true_eq] at this; simpa [pinsL] using this.1.2
      clear hok hb hmem
      go_enter Tryd.func26, Tryd.ntmps26
      go_wp2_with fail
      refine (BlockNames_any _).mono ?_
      rintro e w1 ⟨g, rfl, hb1, hc⟩
      dsimp only
      have hcell : w1.cell? ⟨g, k.toNat - 1, none⟩ = some (.string b.nm) := hc _ _ (by rw [show k.toNat - 1 = (k - 1).toNat by omega]; exact HB.out)
      have B1 := Lib.hid hb1
      have hw : IntKind.i64.wrap (k - 1) = k - 1 := by simp [IntKind.wrap, IntKind.bits, IntKind.signed]; omega
      have hk0 : 0 ≤ k - 1 := by omega
      have hk3 : k - 1 < 12 := by omega
      clear hc hb1
      go_wp2_with fail
      refine (HS.out _).mono ?_
      rintro e w2 ⟨g1, g2, g3, Ks, rfl, hm2⟩
      dsimp only
      have M := Lib.hid (((Mem.start w).below B1.out).join (hm2.alloc 78 #[.slice (some ⟨g1, 0, none⟩) (pinsL b.ins).length (pinsL b.ins).length, .slice (some ⟨g2, 0, none⟩) (pinsL b.outs).length (pinsL b.outs).length, .slice (some ⟨g3, 0, none⟩) (pinsL b.st).length (pinsL b.st).length]))
      have M2 := Lib.hid (hm2.alloc 78 #[.slice (some ⟨g1, 0, none⟩) (pinsL b.ins).length (pinsL b.ins).length, .slice (some ⟨g2, 0, none⟩) (pinsL b.outs).length (pinsL b.outs).length, .slice (some ⟨g3, 0, none⟩) (pinsL b.st).length (pinsL b.st).length])
      clear hm2 hcell hw hk0 hk3
      have BB := Lib.hid M.out.bel
      clear M
      generalize (pinsL b.ins).length = n1 at *
      generalize (pinsL b.outs).length = n2 at *
      generalize (pinsL b.st).length = n3 at *
      have HE := Lib.hid hs
      clear hs
      go_upto_region 5 with fail
      generalize World.alloc _ _ = w3 at M2 BB ⊢
      generalize w2.heap.size = g at M2 ⊢
      have x0 : w3.cell? ⟨g, 0, none⟩ = some (.slice (some ⟨g1, 0, none⟩) n1 n1) := M2.out.cellK 0 rfl 0
      have x1 : w3.cell? ⟨g, 1, none⟩ = some (.slice (some ⟨g2, 0, none⟩) n2 n2) := M2.out.cellK 0 rfl 1
      have x2 : w3.cell? ⟨g, 2, none⟩ = some (.slice (some ⟨g3, 0, none⟩) n3 n3) := M2.out.cellK 0 rfl 2
      go_wp2
      go_ret
      exact ⟨ret_int (by rw [← HE.out]; omega), BB.out⟩
end Go.Proofs.YtiogcbckhaknmaaDoor.Vf
