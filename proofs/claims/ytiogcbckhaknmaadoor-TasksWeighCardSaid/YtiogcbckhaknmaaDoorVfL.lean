/-
  The law CodeVerify, its argument opened. No conditions.
-/
import Derived.Test.YtiogcbckhaknmaaDoorVfK
namespace Go.Proofs.YtiogcbckhaknmaaDoor.Vf
open Go.RowKit Go.Proofs.YtiogcbckhaknmaaDoor.W Go.Proofs.YtiogcbckhaknmaaDoor.Ints Go.Proofs.YtiogcbckhaknmaaDoor.Cod Go.Proofs.YtiogcbckhaknmaaDoor.Cell

theorem procs_pick {w : World} : ∀ {vs : List PV}, (∀ v ∈ vs, ∃ p : PD, PRd w v p ∧ p.ok) → ∃ ps : List PD, vs.length = ps.length ∧ (∀ (i : Nat) (v : PV) (p : PD), vs[i]? = some v → ps[i]? = some p → PRd w v p) ∧ ∀ p ∈ ps, p.ok
  | [], _ => ⟨[], rfl, fun i v p h => by simp at h, fun p h => by cases h⟩
  | v :: vs, h => by
    obtain ⟨p, h1, h2⟩ := h v (List.mem_cons_self ..)
    obtain ⟨ps, h3, h4, h5⟩ := procs_pick (vs := vs) (fun x hx => h x (List.mem_cons_of_mem _ hx))
    refine ⟨p :: ps, by simp [h3], fun i a q ha hq => ?_, fun q hq => ?_⟩
    · cases i with
      | zero =>
        simp at ha hq
        subst ha hq
        exact h1
      | succ i =>
        simp at ha hq
        exact h4 i a q ha hq
    · rcases List.mem_cons.1 hq with rfl | hq
      · exact h2
      · exact h5 q hq
theorem code_in {H : Type} {enc : TypeId × Value → H} {w : World} {cs : List Value} (h : O.Op enc Tryd.prog w 24 cs) : ∃ (A : Option Addr) (n c : Nat) (vs : List PV) (ps : List PD), cs = [.slice A n c] ∧ CRd w A n vs ps ∧ (∀ p ∈ ps, p.ok) ∧ n * 96 ≤ 140737488351232 := by
  obtain ⟨hl, hf⟩ := h.struct Tryd.underlying24
  have hl2 : cs.length = 1 := hl.trans (by kernel_rfl)
  obtain ⟨c0, rfl⟩ : ∃ c0, cs = [c0] := by
    cases cs with
    | nil => cases hl2
    | cons c0 r =>
      cases r with
      | nil => exact ⟨c0, rfl⟩
      | cons _ _ => simp at hl2
  obtain ⟨A, n, c, vs, e, hnc, hc, h3, h4, _⟩ := (hf 0 _ rfl).recs (bt := 96) PV.size (by omega) ⟨0, ByteArray.empty, none, 0, 0, none, 0, 0, none, 0, 0⟩ Tryd.underlying22 (by kernel_rfl) (by kernel_rfl) (fun cs h => proc_in h)
  have k4 : Tryd.prog.cellsOf 22 = 1 := by kernel_rfl
  simp [k4] at e
  subst e
  obtain ⟨ps, h5, h6, h7⟩ := procs_pick h4
  exact ⟨A, n, c, vs, ps, rfl, ⟨h3, by rw [← h5]; exact Rd.rec_len PV.size (by omega) h3, h6⟩, h7, by omega⟩
theorem walk_Verify (H : Type) (enc : TypeId × Value → H) (w : World) (m : Int) (hm : w.cell? ⟨0, 0, none⟩ = some (.int .i64 m)) (cs : Array Value) (ho : O.Op enc Tryd.prog w 24 cs.toList) :
    Calls Tryd.prog 3 #[.agg cs] w fun e w' => e = .returned (.bool true) ∧ Below w.heap.size w w' := by
  obtain ⟨A, n, c, vs, ps, e, hC, hok, hn⟩ := code_in ho
  obtain ⟨l⟩ := cs
  obtain rfl : l = [.slice A n c] := e
  exact CodeVerify_law A n c vs ps m w hC hok hn hm
end Go.Proofs.YtiogcbckhaknmaaDoor.Vf
