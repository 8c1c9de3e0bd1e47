/-
  The walk of the law TasksWeigh. Conditions: the arguments read; the variable that holds the length of the library's longest quick search reads.
-/
import Derived.Test.YtiogcbckhaknmaaDoorWgh1
namespace Go.Proofs.YtiogcbckhaknmaaDoor.Vf
open Go.RowKit Go.Proofs.YtiogcbckhaknmaaDoor.W Go.Proofs.YtiogcbckhaknmaaDoor.Ints Go.Proofs.YtiogcbckhaknmaaDoor.Cod Go.Proofs.YtiogcbckhaknmaaDoor.Cell

theorem out_ex (ps : List PD) : ∃ o, Out ps o := by
  by_cases h : 16 < ps.length
  · exact ⟨_, .great h⟩
  have key : ∀ k, k ≤ ps.length → (∃ bs, VerR ps k bs) ∨ ∃ o, Out ps o := by
    intro k
    induction k with
    | zero => intro _; exact .inl ⟨[], ver_zero ps⟩
    | succ k ih =>
      intro hk
      rcases ih (by omega) with ⟨bs, hv⟩ | h2
      · obtain ⟨p, hp⟩ : ∃ p, ps[k]? = some p := ⟨_, List.getElem?_eq_getElem (by omega)⟩
        by_cases hl : LookOk ps k p
        · by_cases hb : boundF p.text bs ≤ 1000000000
          · exact .inl ⟨_, ver_next hv hp hl hb⟩
          · exact .inr ⟨_, .slow k bs p (by omega) hv hp hl (by omega)⟩
        · exact .inr ⟨_, .bad k bs p (by omega) hv hp hl⟩
      · exact .inr h2
  rcases key _ (Nat.le_refl _) with ⟨bs, hv⟩ | h2
  · exact ⟨_, .all bs (by omega) hv⟩
  · exact h2
set_option maxRecDepth 100000 in
set_option maxHeartbeats 12800000 in
theorem walk_Weigh (H : Type) (enc : TypeId × Value → H) (w : World) (m : Int) (hm : w.cell? ⟨0, 0, none⟩ = some (.int .i64 m)) (cs : Array Value) (ho : O.Op enc Tryd.prog w 24 cs.toList) (unit : Int) (hu0 : (Lit.int .i64 unit).wf = true) (step : Int) (hs0 : (Lit.int .i64 step).wf = true) :
    Calls Tryd.prog 4 #[.agg cs, .int .i64 unit, .int .i64 step] w fun e w' => e = .returned (.bool true) ∧ Below w.heap.size w w' := by
  obtain ⟨A, n, c, vs, ps, e, hC, hok, hn⟩ := code_in ho
  obtain ⟨l⟩ := cs
  obtain rfl : l = [.slice A n c] := e
  obtain ⟨o, hO⟩ := out_ex ps
  have hu : I64 unit := by simpa [I64, Lit.wf, IntKind.min, IntKind.max, IntKind.signed, IntKind.bits] using hu0
  have hs : I64 step := by simpa [I64, Lit.wf, IntKind.min, IntKind.max, IntKind.signed, IntKind.bits] using hs0
  have HM : Hid (∀ w', Below w.heap.size w w' → w'.cell? ⟨0, 0, none⟩ = some (.int .i64 m)) := Lib.hid fun w' h => (h.cell (lt_of_cell hm)).trans hm
  have HC := Lib.hid hC
  have HOK := Lib.hid hok
  have HOUT := Lib.hid hO
  have HU := Lib.hid hu
  have HS := Lib.hid hs
  clear hC hok hO hm ho hu hs
  obtain ⟨r, hr⟩ : ∃ r, weighF o unit step = r := ⟨_, rfl⟩
  have HR := Lib.hid hr
  clear hr
  go_enter Tryd.func4, Tryd.ntmps4
  go_upto_region 1 with fail
  have M0 := Lib.hid ((Mem.start w).alloc 24 #[.slice A n c])
  generalize World.alloc _ _ = w1 at M0 ⊢
  generalize w.heap.size = gb at M0 ⊢
  have x0 : w1.cell? ⟨gb, 0, none⟩ = some (.slice A n c) := M0.out.cellK 0 rfl 0
  go_wp2_with fail
  refine (WeighR_any A n c vs ps unit step w1 (HC.out.below M0.out.bel) HOK.out hn HU.out HS.out o HOUT.out).mono ?_
  rintro e w2 ⟨rfl, hb⟩
  rw [HR.out]
  dsimp only
  have M1 := Lib.hid (M0.out.below hb)
  clear hb M0 x0
  have x0 : w2.cell? ⟨gb, 0, none⟩ = some (.slice A n c) := M1.out.cellK 0 rfl 0
  go_wp2_with fail
  refine (Weigh_any A n c vs ps unit step m w2 (HC.out.below M1.out.bel) HOK.out hn HU.out HS.out (HM.out _ M1.out.bel) o HOUT.out).mono ?_
  rintro e w3 ⟨rfl, hb⟩
  rw [HR.out]
  dsimp only
  have M2 := Lib.hid (M1.out.below hb)
  clear hb M1 x0
  have BF := Lib.hid M2.out.bel
  have z1 : (r.1 == r.1) = true := by simp
  have z2 : (r.2 == r.2) = true := by simp
  go_wp2
  go_ret
  exact ⟨by first | rfl | simp, BF.out⟩
end Go.Proofs.YtiogcbckhaknmaaDoor.Vf
