/-
  A step of a guard by safety's Step: what the plain step says, with a row of its own. Conditions: the guard, the trip and what is told read, within the reach.
-/
import Derived.Test.YtdofkakbfolpkaaSg2
import Derived.Deep.RegionLaw
namespace Go.Proofs.Ytdofkakbfolpkaa.Sf
open Go.RowKit Go.Proofs.Ytdofkakbfolpkaa.W Go.Proofs.Ytdofkakbfolpkaa.Ints Go.Proofs.Ytdofkakbfolpkaa.Pop

theorem grow_setCell (w : World) (p : Addr) (u : Value) : w.grownBy (w.setCell p u) (some p.block) := ⟨rfl, rfl, rfl, by simp [World.setCell], fun k _ hne => Below.heap_setCell w p u k (fun e => hne (by rw [e]))⟩
/-- an own row at g, behind a store to another block -/
theorem own_far {w : World} {base sz n c g : Nat} {e : TypeId} {xs : List Value} (h : w.ownsRow base e sz (.slice (some ⟨g, 0, none⟩) n c) n xs) {p : Addr} (hp : g ≠ p.block) (u : Value) : (w.setCell p u).ownsRow base e sz (.slice (some ⟨g, 0, none⟩) n c) n xs :=
  own_grown h (grow_setCell w p u) (fun g' hg e => by
    injection hg with hg
    injection e with e
    exact hp (hg.trans e))
theorem u64_and_i (a b : Nat) (ha : a < 18446744073709551616) (hb : b < 18446744073709551616) : bits .and .u64 (a : Int) (b : Int) = ((a &&& b : Nat) : Int) := u64_and_nat a b ha hb

theorem step_code (m d : Int) (Q : Option Addr) (n c : Nat) (vs : List VD) (T : TR) (A : Option Addr) (e : Nat) (told : List Int) (Z : Option Addr) (k z : Nat) (key : Bool) (w : World) (hr : GRd w Q n vs)
    (h : (guardF m d (vs.map VD.pl)).1 ≠ 0) :
    Calls Try.prog 16 #[guardV m d Q n c, tripV T.down T.first A T.held.length e T.key, .slice Z k z, .bool key] w fun x w' => TripT w w' x (stepF m d (vs.map VD.pl) T told key) := by
  have hT : stepF m d (vs.map VD.pl) T told key = (zeroT, (guardF m d (vs.map VD.pl)).1) := by unfold stepF; rw [if_pos h]
  obtain ⟨down, first, hs, tkey⟩ := T
  have HSE : Hid (∀ W : World, GRd W Q n vs → Calls Try.prog 22 #[guardV m d Q n c] W fun e w' => SetsT W w' e m d (vs.map VD.pl)) := fun W h => sets_any m d Q n c vs W h
  unfold SetsT at HSE
  have HR := Lib.hid hr
  generalize setsF m d (vs.map VD.pl) = SS at *
  generalize guardF m d (vs.map VD.pl) = G at *
  generalize stepF m d (vs.map VD.pl) _ told key = T at *
  clear hr
  obtain ⟨C, U⟩ := G
  simp only at hT h ⊢
  have HT := Lib.hid hT
  have hC' : (C != 0) = true := by simp [h]
  clear hT h
  go_enter Try.func16, Try.ntmps16
  go_wp2_with fail
  refine (HSE.out _ (((HR.out.alloc _).alloc _).alloc _)).mono ?_
  rintro x w1 ⟨B, c1, rfl, _, hb⟩
  obtain ⟨k1, k2, k3, hb2, z1, z2, z3⟩ := call3 hb
  have c3 := k3.cell
  have f3 := k3.frozen
  have HB := Lib.hid hb2
  clear hb hb2 k1 k2 k3
  go_wp2
  go_region
  go_wp2
  refine bodyPost_ret (v := .tuple #[tripV false 0 none 0 0 false, .int .i64 C]) ?_ rfl ?_
  · simp [results, Try.results16, go_sem, c3, z3]
  · rw [HT.out]
    refine trip_nil (below_drew ?_)
    repeat' (first | (with_reducible exact HB.out) | (with_reducible refine Below.setCell ?_ ?_ _; rotate_left; (simp <;> omega)) | (with_reducible refine Below.alloc ?_ ?_ _; rotate_left; (simp <;> omega)))

set_option maxHeartbeats 3200000 in
theorem step_state (m d : Int) (Q : Option Addr) (n c : Nat) (vs : List VD) (T : TR) (A : Option Addr) (e : Nat) (told : List Int) (Z : Option Addr) (k z : Nat) (key : Bool) (w : World) (hr : GRd w Q n vs)
    (ht : Rd w 1 A T.held.length (ints T.held)) (ht8 : T.held.length * 8 ≤ 140737488351232) (hz : Rd w 1 Z k (ints told)) (_hz8 : k * 8 ≤ 140737488351232) (h : (guardF m d (vs.map VD.pl)).1 = 0) (h2 : standsB d n T = false ∨ (k : Int) ≠ m) :
    Calls Try.prog 16 #[guardV m d Q n c, tripV T.down T.first A T.held.length e T.key, .slice Z k z, .bool key] w fun x w' => TripT w w' x (stepF m d (vs.map VD.pl) T told key) := by
  have hlv : (vs.map VD.pl).length = n := by rw [List.length_map]; exact hr.len
  obtain ⟨n16, m1, m64, n1, d0, d1, hall⟩ := guard_len h
  rw [hlv] at n16 n1
  have hS : setsF m d (vs.map VD.pl) = (vs.map VD.pl).map fun p => setF p.2 := by unfold setsF; rw [if_pos h]
  have HSE : Hid (∀ W : World, GRd W Q n vs → Calls Try.prog 22 #[guardV m d Q n c] W fun e w' => SetsT W w' e m d (vs.map VD.pl)) := fun W h => sets_any m d Q n c vs W h
  unfold SetsT at HSE
  have hSL : (setsF m d (vs.map VD.pl)).length = n := by rw [hS, List.length_map, hlv]
  rw [hSL] at HSE
  have HSTD : Hid (∀ (W : World), Rd W 1 A T.held.length (ints T.held) → Calls Try.prog 23 #[guardV m d Q n c, tripV T.down T.first A T.held.length e T.key] W fun x w' => x = .returned (.bool (standsB d n T)) ∧ Below W.heap.size W w') := fun W h => stands_any m d Q n c T A e W h ht8 n16 d0 d1
  have HR := Lib.hid hr
  have HTR := Lib.hid ht
  have HZ := Lib.hid hz
  have HZL := Lib.hid (rd_len hz)
  have HS := Lib.hid hS
  have HALL := Lib.hid hall
  have HLV := Lib.hid hlv
  have hT : stepF m d (vs.map VD.pl) T told key = (zeroT, if standsB d n T = false then 15 else 4) := by
    unfold stepF
    rw [if_neg (by rw [h]; decide), hlv]
    by_cases hst : standsB d n T = false
    · rw [if_pos hst, if_pos hst]
    · rw [if_neg hst, if_neg hst, if_pos]
      have := HZL.out
      rcases h2 with h2 | h2
      · exact absurd h2 hst
      · rw [this]; exact h2
  generalize stepF m d (vs.map VD.pl) T told key = TT at *
  generalize standsB d n T = st at *
  obtain ⟨down, first, hs, tkey⟩ := T
  simp only at *
  generalize setsF m d (vs.map VD.pl) = SS at *
  generalize guardF m d (vs.map VD.pl) = G at *
  obtain ⟨C, U⟩ := G
  simp only at h
  subst h
  have HT := Lib.hid hT
  generalize hhl : hs.length = hl at *
  clear hr ht hz hS hall hT hlv hSL hhl
  go_enter Try.func16, Try.ntmps16
  go_wp2_with fail
  refine (HSE.out _ (((HR.out.alloc _).alloc _).alloc _)).mono ?_
  rintro x w1 ⟨B, c1, rfl, ho, hb⟩
  obtain ⟨k1, k2, k3, hb2, z1, z2, z3⟩ := call3 hb
  have HO := Lib.hid ho
  have K1 := Lib.hid (k1.alloc (.cells #[.int .i64 0, .int .i64 U, .int .i64 0] 33))
  have K2 := Lib.hid (k2.alloc (.cells #[.int .i64 0, .int .i64 U, .int .i64 0] 33))
  have K3 := Lib.hid (k3.alloc (.cells #[.int .i64 0, .int .i64 U, .int .i64 0] 33))
  have K4 := Lib.hid (Blk.new w1 33 #[.int .i64 0, .int .i64 U, .int .i64 0])
  have HB := Lib.hid (hb2.alloc (by omega) (.cells #[.int .i64 0, .int .i64 U, .int .i64 0] 33))
  have hbs := hb.size
  simp only [World.size_alloc] at hbs ho
  have HO := Lib.hid (own_below (own_weaken ho (base' := w.heap.size) (by omega)) (below_alloc (.cells #[.int .i64 0, .int .i64 U, .int .i64 0] 33)))
  have c1' := k1.cell
  have c2' := k2.cell
  have c3' := k3.cell
  clear hb hb2 k1 k2 k3 ho
  go_wp2_with fail
  refine (HSTD.out _ ((HTR.out.below HB.out))).mono ?_
  rintro x w2 ⟨rfl, hb⟩
  have hbs2 := hb.size
  simp only [World.size_alloc] at hbs2
  have c1' := (K1.out.below hb).cell
  have c3' := (K3.out.below hb).cell
  have f3' := (K3.out.below hb).frozen
  have B2 := Lib.hid (HB.out.trans (hb.mono (by simp; omega)))
  have z3' : w.heap.size + 2 < w2.heap.size := by omega
  clear hb c2' HO K1 K2 K3 K4 HB
  cases st
  · go_wp2
    refine bodyPost_ret (v := .tuple #[tripV false 0 none 0 0 false, .int .i64 15]) ?_ rfl ?_
    · simp [results, Try.results16, go_sem, c3']
    · rw [HT.out]
      refine trip_nil ?_
      repeat' (first | (with_reducible exact B2.out) | (with_reducible refine Below.setCell ?_ ?_ _; rotate_left; (simp <;> omega)) | (with_reducible refine Below.alloc ?_ ?_ _; rotate_left; (simp <;> omega)))
  · have hne : ((k : Int) != m) = true := by simpa using h2
    go_wp2
    refine bodyPost_ret (v := .tuple #[tripV false 0 none 0 0 false, .int .i64 4]) ?_ rfl ?_
    · simp [results, Try.results16, go_sem, c3']
    · rw [HT.out]
      refine trip_nil ?_
      repeat' (first | (with_reducible exact B2.out) | (with_reducible refine Below.setCell ?_ ?_ _; rotate_left; (simp <;> omega)) | (with_reducible refine Below.alloc ?_ ?_ _; rotate_left; (simp <;> omega)))
end Go.Proofs.Ytdofkakbfolpkaa.Sf
