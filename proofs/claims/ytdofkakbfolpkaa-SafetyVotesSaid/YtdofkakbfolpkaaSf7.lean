/-
  Check and Start; how the document says a guard begins; guards and trips that are the same. Conditions: the guard reads, within the reach.
-/
import Derived.Test.YtdofkakbfolpkaaSf5
import Derived.Test.YtdofkakbfolpkaaMake
namespace Go.Proofs.Ytdofkakbfolpkaa.Sf
open Go.RowKit Go.Proofs.Ytdofkakbfolpkaa.W Go.Proofs.Ytdofkakbfolpkaa.Ints Go.Proofs.Ytdofkakbfolpkaa.Pop

theorem Check_any (m d : Int) (Q : Option Addr) (n c : Nat) (vs : List VD) (w : World) (hr : GRd w Q n vs) :
    Calls Try.prog 10 #[guardV m d Q n c] w fun e w' => e = .returned (faultV (guardF m d (vs.map VD.pl))) ∧ Below w.heap.size w w' := by
  have HR := Lib.hid hr
  clear hr
  go_enter Try.func10, Try.ntmps10
  go_wp2_with fail
  refine (sets_any m d Q n c vs _ ((HR.out.alloc _).alloc _)).mono ?_
  rintro e w1 ⟨B, c', rfl, ho, hb⟩
  obtain ⟨k1, k2, hb2, z1, z2⟩ := call2 hb
  have c1 := k2.cell
  have f1 := k2.frozen
  have HB := Lib.hid hb2
  clear ho hb hb2 k1 k2
  go_wp2
  refine bodyPost_ret (v := faultV (guardF m d (vs.map VD.pl))) ?_ rfl ?_
  · simp [results, Try.results10, go_sem, c1, z2]
  · refine ⟨rfl, ?_⟩
    repeat' (first | (with_reducible exact HB.out) | (with_reducible refine Below.setCell ?_ ?_ _; rotate_left; (simp <;> omega)) | (with_reducible refine Below.alloc ?_ ?_ _; rotate_left; (simp <;> omega)))

theorem below_drew {B : Nat} {a w : World} (h : Below B a w) : Below B a w.drew := ⟨h.os, h.tape, h.output, h.size, h.block⟩
theorem own_at {w : World} {base n g g' : Nat} {e : TypeId} {xs : List Value} (h : w.ownsRow base e 1 (.slice (some ⟨g, 0, none⟩) n n) n xs) (hg : g = g') : w.ownsRow base e 1 (.slice (some ⟨g', 0, none⟩) n n) n xs := hg ▸ h
structure TR where
  down : Bool
  first : Int
  held : List Int
  key : Bool
abbrev tripV (down : Bool) (first : Int) (A : Option Addr) (n c : Nat) (key : Bool) : Value := .agg #[.bool down, .int .i64 first, .slice A n c, .bool key]
/-- a trip with a row of its own, and a number -/
def TripT (w w' : World) (e : Ending) (T : TR × Int) : Prop :=
  ∃ A c, e = .returned (.tuple #[tripV T.1.down T.1.first A T.1.held.length c T.1.key, .int .i64 T.2]) ∧ w'.ownsRow w.heap.size 3 1 (.slice A T.1.held.length c) T.1.held.length (ints T.1.held) ∧ Below w.heap.size w w'
def beginF (m d : Int) (ps : List (Int × List Int)) : TR × Int := if (guardF m d ps).1 = 0 then (⟨false, -1, List.replicate ps.length 0, false⟩, 0) else (⟨false, 0, [], false⟩, (guardF m d ps).1)
theorem trip_nil {w w' : World} {E : Int} (hb : Below w.heap.size w w') : TripT w w' (.returned (.tuple #[tripV false 0 none 0 0 false, .int .i64 E])) (⟨false, 0, [], false⟩, E) :=
  ⟨none, 0, rfl, World.ownsRow_nil _ _ _ _, hb⟩
theorem trip_new {w w' : World} {A : Option Addr} {n c : Nat} {down key : Bool} {first : Int} {hs : List Int} (hl : hs.length = n) (ho : w'.ownsRow w.heap.size 3 1 (.slice A n c) n (ints hs)) (hb : Below w.heap.size w w') :
    TripT w w' (.returned (.tuple #[tripV down first A n c key, .int .i64 0])) (⟨down, first, hs, key⟩, 0) := by
  subst hl
  exact ⟨A, c, rfl, ho, hb⟩
theorem guard_len {m d : Int} {ps : List (Int × List Int)} (h : (guardF m d ps).1 = 0) : ps.length ≤ 16 ∧ 1 ≤ m ∧ m ≤ 64 ∧ 1 ≤ ps.length ∧ 0 ≤ d ∧ d ≤ 1000 ∧ ps.any (badV m) = false := by
  unfold guardF at h
  split at h
  · simp at h
  · rename_i h1
    split at h
    · simp at h
    · rename_i h2
      unfold sizeBad at h1
      refine ⟨by omega, by omega, by omega, by omega, by omega, by omega, ?_⟩
      cases hb : badAt m ps with
      | some k =>
        rw [hb] at h
        simp only at h
        unfold badAt at hb
        rw [List.findIdx?_eq_some_iff_getElem] at hb
        obtain ⟨hk, hb, _⟩ := hb
        simp [badV, List.getD_eq_getElem?_getD, List.getElem?_eq_getElem hk] at hb h
        exact absurd h hb
      | none =>
        unfold badAt at hb
        rw [List.findIdx?_eq_none_iff] at hb
        rw [List.any_eq_false]
        intro x hx
        simp [hb x hx]
set_option maxHeartbeats 1600000 in
theorem Start_any (m d : Int) (Q : Option Addr) (n c : Nat) (vs : List VD) (w : World) (hr : GRd w Q n vs) :
    Calls Try.prog 9 #[guardV m d Q n c] w fun e w' => TripT w w' e (beginF m d (vs.map VD.pl)) := by
  have hln : (vs.map VD.pl).length = n := by rw [List.length_map]; exact hr.len
  have hlen := guard_len (m := m) (d := d) (ps := vs.map VD.pl)
  have hT : beginF m d (vs.map VD.pl) = if (guardF m d (vs.map VD.pl)).1 = 0 then (⟨false, -1, List.replicate (vs.map VD.pl).length 0, false⟩, 0) else (⟨false, 0, [], false⟩, (guardF m d (vs.map VD.pl)).1) := rfl
  rw [hln] at hT hlen
  have HCK : Hid (∀ W : World, GRd W Q n vs → Calls Try.prog 10 #[guardV m d Q n c] W fun e w' => e = .returned (faultV (guardF m d (vs.map VD.pl))) ∧ Below W.heap.size W w') := fun W h => Check_any m d Q n c vs W h
  have HR := Lib.hid hr
  generalize guardF m d (vs.map VD.pl) = G at *
  generalize beginF m d (vs.map VD.pl) = T at *
  clear hr hln
  obtain ⟨C, U⟩ := G
  simp only at hT hlen
  have HT := Lib.hid hT
  have HL := Lib.hid hlen
  clear hT hlen
  go_enter Try.func9, Try.ntmps9
  go_wp2_with fail
  refine (HCK.out _ ((HR.out.alloc _).alloc _)).mono ?_
  rintro e w1 ⟨rfl, hb⟩
  obtain ⟨k1, k2, hb2, z1, z2⟩ := call2 hb
  have c0 := k1.cell
  have c1 := k2.cell
  have f1 := k2.frozen
  have HB := Lib.hid hb2
  clear hb hb2 k1 k2
  by_cases hC : C = 0
  · subst hC
    have HTT : Hid (T = (⟨false, -1, List.replicate n 0, false⟩, 0)) := HT.out.trans (if_pos rfl)
    have hn16 := (HL.out rfl).1
    have hmk := make_any n (by omega)
    clear HT HL
    go_wp2
    refine bodyPost_ret (v := .tuple #[tripV false (-1) (some ⟨w1.heap.size + 1, 0, none⟩) n n false, .int .i64 0]) ?_ rfl ?_
    · simp [results, Try.results9, go_sem, c1, z2, z1]
    · rw [HTT.out]
      refine trip_new (by simp) ?_ ?_
      · exact own_at (make_own n (by omega) _ (by simp; omega)) (by simp)
      · repeat' (first | (with_reducible exact HB.out) | (with_reducible refine Below.setCell ?_ ?_ _; rotate_left; (simp <;> omega)) | (with_reducible refine Below.alloc ?_ ?_ _; rotate_left; (simp <;> omega)))
  · have hC' : (C != 0) = true := by simp [hC]
    have HTT : Hid (T = (⟨false, 0, [], false⟩, C)) := HT.out.trans (if_neg hC)
    clear HT HL
    go_wp2
    go_region
    go_wp2
    refine bodyPost_ret (v := .tuple #[tripV false 0 none 0 0 false, .int .i64 C]) ?_ rfl ?_
    · simp [results, Try.results9, go_sem, c1, z2]
    · rw [HTT.out]
      refine trip_nil (below_drew ?_)
      repeat' (first | (with_reducible exact HB.out) | (with_reducible refine Below.setCell ?_ ?_ _; rotate_left; (simp <;> omega)) | (with_reducible refine Below.alloc ?_ ?_ _; rotate_left; (simp <;> omega)))
set_option maxHeartbeats 1600000 in
theorem Begun_any (m d : Int) (Q : Option Addr) (n c : Nat) (vs : List VD) (w : World) (hr : GRd w Q n vs) :
    Calls Try.prog 8 #[guardV m d Q n c] w fun e w' => TripT w w' e (beginF m d (vs.map VD.pl)) := by
  have hln : (vs.map VD.pl).length = n := by rw [List.length_map]; exact hr.len
  have hlen := guard_len (m := m) (d := d) (ps := vs.map VD.pl)
  have hT : beginF m d (vs.map VD.pl) = if (guardF m d (vs.map VD.pl)).1 = 0 then (⟨false, -1, List.replicate (vs.map VD.pl).length 0, false⟩, 0) else (⟨false, 0, [], false⟩, (guardF m d (vs.map VD.pl)).1) := rfl
  rw [hln] at hT hlen
  have HCK : Hid (∀ W : World, GRd W Q n vs → Calls Try.prog 11 #[guardV m d Q n c] W fun e w' => e = .returned (faultV (guardF m d (vs.map VD.pl))) ∧ Below W.heap.size W w') := fun W h => Guarded_any m d Q n c vs W h
  have HR := Lib.hid hr
  generalize guardF m d (vs.map VD.pl) = G at *
  generalize beginF m d (vs.map VD.pl) = T at *
  clear hr hln
  obtain ⟨C, U⟩ := G
  simp only at hT hlen
  have HT := Lib.hid hT
  have HL := Lib.hid hlen
  clear hT hlen
  go_enter Try.func8, Try.ntmps8
  go_wp2_with fail
  refine (HCK.out _ ((HR.out.alloc _).alloc _)).mono ?_
  rintro e w1 ⟨rfl, hb⟩
  obtain ⟨k1, k2, hb2, z1, z2⟩ := call2 hb
  have c0 := k1.cell
  have c1 := k2.cell
  have f1 := k2.frozen
  have HB := Lib.hid hb2
  clear hb hb2 k1 k2
  by_cases hC : C = 0
  · subst hC
    have HTT : Hid (T = (⟨false, -1, List.replicate n 0, false⟩, 0)) := HT.out.trans (if_pos rfl)
    have hn16 := (HL.out rfl).1
    have hmk := make_any n (by omega)
    clear HT HL
    go_wp2
    refine bodyPost_ret (v := .tuple #[tripV false (-1) (some ⟨w1.heap.size + 1, 0, none⟩) n n false, .int .i64 0]) ?_ rfl ?_
    · simp [results, Try.results8, go_sem, c1, z2, z1]
    · rw [HTT.out]
      refine trip_new (by simp) ?_ ?_
      · exact own_at (make_own n (by omega) _ (by simp; omega)) (by simp)
      · repeat' (first | (with_reducible exact HB.out) | (with_reducible refine Below.setCell ?_ ?_ _; rotate_left; (simp <;> omega)) | (with_reducible refine Below.alloc ?_ ?_ _; rotate_left; (simp <;> omega)))
  · have hC' : (C != 0) = true := by simp [hC]
    have HTT : Hid (T = (⟨false, 0, [], false⟩, C)) := HT.out.trans (if_neg hC)
    clear HT HL
    go_wp2
    go_region
    go_wp2
    refine bodyPost_ret (v := .tuple #[tripV false 0 none 0 0 false, .int .i64 C]) ?_ rfl ?_
    · simp [results, Try.results8, go_sem, c1, z2]
    · rw [HTT.out]
      refine trip_nil (below_drew ?_)
      repeat' (first | (with_reducible exact HB.out) | (with_reducible refine Below.setCell ?_ ?_ _; rotate_left; (simp <;> omega)) | (with_reducible refine Below.alloc ?_ ?_ _; rotate_left; (simp <;> omega)))
end Go.Proofs.Ytdofkakbfolpkaa.Sf
