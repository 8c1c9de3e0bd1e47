/-
  A step of a guard as the document says it: what the plain step says, with a row of its own. Conditions: the guard, the trip and what is told read, within the reach.
-/
import Derived.Test.YtdofkakbfolpkaaSg5
namespace Go.Proofs.Ytdofkakbfolpkaa.Sf
open Go.RowKit Go.Proofs.Ytdofkakbfolpkaa.W Go.Proofs.Ytdofkakbfolpkaa.Ints Go.Proofs.Ytdofkakbfolpkaa.Pop

theorem votes_next {told of : List Int} {j : Nat} (h : j < of.length) : votesOn told (of.take (j + 1)) = votesOn told (of.take j) + if (told.getD (of.getD j 0).toNat 0 != 0) = true then 1 else 0 := by
  unfold votesOn
  rw [List.take_succ_eq_append_getElem h, List.filter_append, List.length_append]
  have e : of.getD j 0 = of[j] := by simp [List.getD_eq_getElem?_getD, List.getElem?_eq_getElem h]
  rw [e]
  congr 1
  by_cases hb : (told.getD (of[j]).toNat 0 != 0) = true
  · simp only [List.filter_cons, hb, if_pos, List.filter_nil, List.length_cons, List.length_nil]
  · simp only [List.filter_cons, if_neg hb, List.filter_nil, List.length_nil]
theorem votes_next' {told of : List Int} {j xx : Nat} (h : j < of.length) (hx : of.getD j 0 = (xx : Int)) : votesOn told (of.take (j + 1)) = votesOn told (of.take j) + if (told.getD xx 0 != 0) = true then 1 else 0 := by
  have h1 := votes_next (told := told) h
  rw [hx] at h1
  exact h1
theorem held_take {l : List Int} {k : Nat} {x : Int} (h : l[k]? = some x) : l.take (k + 1) = l.take k ++ [x] := by
  have hk := (List.getElem?_eq_some_iff.1 h).1
  rw [List.getElem?_eq_getElem hk] at h
  injection h with h
  rw [List.take_succ_eq_append_getElem hk, h]
theorem idx_snoc (v : Int) (l : List Int) (x : Int) : idxOf v (l ++ [x]) = if 0 ≤ idxOf v l then idxOf v l else if (v == x) = true then (l.length : Int) else -1 := by
  unfold idxOf
  rw [List.findIdx?_append]
  cases h : l.findIdx? (fun y => v == y) with
  | some k => simp
  | none =>
    simp only [List.findIdx?_cons, List.findIdx?_nil, Option.none_or]
    cases hx : (v == x) <;> simp
theorem stands_bad {d : Int} {n : Nat} {T : TR} (h : ((T.held.length : Int) == (n : Int) && !(T.held.any (outB 0 (d + 2)))) = false ∨ (T.down = false ∧ T.first ≠ -1) ∨ (T.down = true ∧ T.first < 0) ∨ (T.down = true ∧ (n : Int) ≤ T.first)) : standsB d n T = false := by
  unfold standsB
  rw [Bool.eq_false_iff]
  intro hc
  simp only [Bool.and_eq_true, decide_eq_true_eq, beq_iff_eq, Bool.not_eq_true'] at hc
  obtain ⟨⟨⟨⟨h1, h2⟩, h3⟩, h4⟩, h5⟩ := hc
  rcases h with h | ⟨h, h'⟩ | ⟨h, h'⟩ | ⟨h, h'⟩
  · simp [h1, h5] at h
  · rw [h] at h2
    have := (decide_eq_false_iff_not.1 h2.symm)
    omega
  · rw [h] at h2
    have := of_decide_eq_true h2.symm
    omega
  · omega
theorem stands_parts {d : Int} {n : Nat} {T : TR} (h : standsB d n T = true) : T.held.length = n ∧ T.held.any (outB 0 (d + 2)) = false ∧ ((T.down = false ∧ T.first = -1) ∨ (T.down = true ∧ 0 ≤ T.first ∧ T.first < n)) := by
  unfold standsB at h
  simp only [Bool.and_eq_true, decide_eq_true_eq, beq_iff_eq, Bool.not_eq_true'] at h
  obtain ⟨⟨⟨⟨h1, h2⟩, h3⟩, h4⟩, h5⟩ := h
  refine ⟨h1, h5, ?_⟩
  cases hd : T.down
  · rw [hd] at h2
    have := (decide_eq_false_iff_not.1 h2.symm)
    exact .inl ⟨rfl, by omega⟩
  · rw [hd] at h2
    have := of_decide_eq_true h2.symm
    exact .inr ⟨rfl, this, h4⟩

set_option maxRecDepth 100000 in
theorem stepped_code (m d : Int) (Q : Option Addr) (n c : Nat) (vs : List VD) (T : TR) (A : Option Addr) (e : Nat) (told : List Int) (Z : Option Addr) (k z : Nat) (key : Bool) (w : World) (hr : GRd w Q n vs)
    (h : (guardF m d (vs.map VD.pl)).1 ≠ 0) :
    Calls Try.prog 15 #[guardV m d Q n c, tripV T.down T.first A T.held.length e T.key, .slice Z k z, .bool key] w fun x w' => TripT w w' x (stepF m d (vs.map VD.pl) T told key) := by
  have hT : stepF m d (vs.map VD.pl) T told key = (zeroT, (guardF m d (vs.map VD.pl)).1) := by unfold stepF; rw [if_pos h]
  obtain ⟨down, first, hs, tkey⟩ := T
  have HSE : Hid (∀ W : World, GRd W Q n vs → Calls Try.prog 11 #[guardV m d Q n c] W fun e w' => e = .returned (faultV (guardF m d (vs.map VD.pl))) ∧ Below W.heap.size W w') := fun W h => Guarded_any m d Q n c vs W h
  have HR := Lib.hid hr
  generalize guardF m d (vs.map VD.pl) = G at *
  generalize stepF m d (vs.map VD.pl) _ told key = T at *
  clear hr
  obtain ⟨C, U⟩ := G
  simp only at hT h ⊢
  have HT := Lib.hid hT
  have hC' : (C != 0) = true := by simp [h]
  clear hT h
  go_enter Try.func15, Try.ntmps15
  go_wp2_with fail
  refine (HSE.out _ (((HR.out.alloc _).alloc _).alloc _)).mono ?_
  rintro x w1 ⟨rfl, hb⟩
  obtain ⟨k1, k2, k3, hb2, z1, z2, z3⟩ := call3 hb
  have c3 := k3.cell
  have f3 := k3.frozen
  have HB := Lib.hid hb2
  clear hb hb2 k1 k2 k3
  go_wp2
  go_region
  go_wp2
  refine bodyPost_ret (v := .tuple #[tripV false 0 none 0 0 false, .int .i64 C]) ?_ rfl ?_
  · simp [results, Try.results15, go_sem, c3, z3]
  · rw [HT.out]
    refine trip_nil (below_drew ?_)
    repeat' (first | (with_reducible exact HB.out) | (with_reducible refine Below.setCell ?_ ?_ _; rotate_left; (simp <;> omega)) | (with_reducible refine Below.alloc ?_ ?_ _; rotate_left; (simp <;> omega)))

set_option maxRecDepth 100000 in
set_option maxHeartbeats 3200000 in
theorem stepped_bad (m d : Int) (Q : Option Addr) (n c : Nat) (vs : List VD) (T : TR) (A : Option Addr) (e : Nat) (told : List Int) (Z : Option Addr) (tl z : Nat) (key : Bool) (w : World) (hr : GRd w Q n vs)
    (ht : Rd w 1 A T.held.length (ints T.held)) (ht8 : T.held.length * 8 ≤ 140737488351232) (hz : Rd w 1 Z tl (ints told)) (_hz8 : tl * 8 ≤ 140737488351232) (h : (guardF m d (vs.map VD.pl)).1 = 0) (h2 : standsB d n T = false) :
    Calls Try.prog 15 #[guardV m d Q n c, tripV T.down T.first A T.held.length e T.key, .slice Z tl z, .bool key] w fun x w' => TripT w w' x (stepF m d (vs.map VD.pl) T told key) := by
  have hlv : (vs.map VD.pl).length = n := by rw [List.length_map]; exact hr.len
  obtain ⟨n16, m1, m64, n1, d0, d1, hall⟩ := guard_len h
  rw [hlv] at n16 n1
  have HSE : Hid (∀ W : World, GRd W Q n vs → Calls Try.prog 11 #[guardV m d Q n c] W fun e w' => e = .returned (faultV (guardF m d (vs.map VD.pl))) ∧ Below W.heap.size W w') := fun W h => Guarded_any m d Q n c vs W h
  have HR := Lib.hid hr
  have HTR := Lib.hid ht
  have HZ := Lib.hid hz
  have HZL := Lib.hid (rd_len hz)
  have HALL := Lib.hid hall
  have HLV := Lib.hid hlv
  have hT : stepF m d (vs.map VD.pl) T told key = (zeroT, 15) := by
    unfold stepF
    rw [if_neg (by rw [h]; decide), hlv, if_pos h2]
  have hGOOD : ∀ b : Bool, ((T.held.length : Int) == (n : Int) && !(T.held.any (outB 0 (d + 2)))) = b → b = true → (T.down = false → T.first ≠ -1) ∧ (T.down = true → T.first < 0 ∨ (n : Int) ≤ T.first) := by
    rintro b hb rfl
    simp only [Bool.and_eq_true, beq_iff_eq, Bool.not_eq_true'] at hb
    obtain ⟨hb1, hb2⟩ := hb
    have hb1' : T.held.length = n := by omega
    unfold standsB at h2
    rw [hb2] at h2
    constructor
    · intro hd hf
      rw [hd, hf] at h2
      simp [hb1'] at h2
      omega
    · intro hd
      rw [hd] at h2
      simp [hb1'] at h2
      omega
  have HGOOD := Lib.hid hGOOD
  generalize stepF m d (vs.map VD.pl) T told key = TT at *
  obtain ⟨down, first, hs, tkey⟩ := T
  simp only at *
  generalize guardF m d (vs.map VD.pl) = G at *
  obtain ⟨C, U⟩ := G
  simp only at h
  subst h
  have HTT := Lib.hid hT
  generalize hhl : hs.length = hl at *
  have HTL := Lib.hid hhl
  clear hr ht hz hall hT hlv hhl h2 hGOOD
  have HNL : Hid (∀ q, (((hl : Int) == (n : Int)) && !((hs.take q).any (outB 0 (d + 2)))) = (((hl : Int) == (n : Int)) && !((hs.take q).any (outB 0 (d + 2))))) := fun _ => rfl
  go_enter Try.func15, Try.ntmps15
  go_wp2_with fail
  refine (HSE.out _ (((HR.out.alloc _).alloc _).alloc _)).mono ?_
  rintro x w1 ⟨rfl, hb⟩
  obtain ⟨k1, k2, k3, hb2, z1, z2, z3⟩ := call3 hb
  have c1' := k1.cell
  have c2' := k2.cell
  have K1 := Lib.hid (k1.alloc (.cells #[.int .i64 0, .int .i64 U, .int .i64 0] 33))
  have K2 := Lib.hid (k2.alloc (.cells #[.int .i64 0, .int .i64 U, .int .i64 0] 33))
  have K3 := Lib.hid (k3.alloc (.cells #[.int .i64 0, .int .i64 U, .int .i64 0] 33))
  have HB := Lib.hid (hb2.alloc (by omega) (.cells #[.int .i64 0, .int .i64 U, .int .i64 0] 33))
  have hbs := hb.size
  simp only [World.size_alloc] at hbs
  have hz1 : (w1.alloc (.cells #[.int .i64 0, .int .i64 U, .int .i64 0] 33)).heap.size = w1.heap.size + 1 := World.size_alloc _ _
  clear hb hb2 k1 k2 k3
  go_wp2
  clear c1' c2'
  generalize World.alloc w1 _ = w2 at *
  have hw2 : w.heap.size + 3 < w2.heap.size := by omega
  clear hz1
  go_loopw [11, 12] (fun ok i wr => ∃ q : Nat, q ≤ hl ∧ i = .int .i64 q ∧ ok = .bool (((hl : Int) == (n : Int)) && !((hs.take q).any (outB 0 (d + 2)))) ∧ Hid (Below w2.heap.size w2 wr)) (fun _ i _ => hl - (intOf i).toNat)
  case atStart => exact ⟨0, Nat.zero_le _, rfl, by simp, Below.refl _ _⟩
  case round =>
    obtain ⟨q, hq, rfl, rfl, hb⟩ := hrel
    have hzz := hb.out.size
    have c1' := (K1.out.below hb.out).cell
    have c2' := (K2.out.below hb.out).cell
    have c3' := (K3.out.below hb.out).cell
    have f3' := (K3.out.below hb.out).frozen
    have l1' : w.heap.size < wr.heap.size := by omega
    have l2' : w.heap.size + 1 < wr.heap.size := by omega
    have l3' : w.heap.size + 2 < wr.heap.size := by omega
    by_cases hlt : q < hl
    · obtain ⟨b, o, rfl, hc⟩ := rd_at (HTR.out.below (HB.out.trans (hb.out.mono (by omega)))) (by omega)
      have h1 := hc q hlt
      clear hc
      have hk' : q < hs.length := by rw [HTL.out]; exact hlt
      have HN := Lib.hid (any_take_next (f := outB 0 (d + 2)) hk')
      have hq0 : (0 : Int) ≤ (q : Int) := by omega
      have hql : (q : Int) < (hl : Int) := by omega
      generalize hOK : (((hl : Int) == (n : Int)) && !((hs.take q).any (outB 0 (d + 2)))) = ok at *
      have HNN : Hid ((((hl : Int) == (n : Int)) && !((hs.take (q + 1)).any (outB 0 (d + 2)))) = (ok && !(outB 0 (d + 2) (hs.getD q 0)))) := by
        rw [Hid, HN.out, ← hOK, Bool.not_or, Bool.and_assoc]
      clear hOK
      generalize hs.getD q 0 = x at *
      have hcase : ok = false ∨ (ok = true ∧ decide (0 ≤ x) = false) ∨ (ok = true ∧ decide (0 ≤ x) = true ∧ decide (x ≤ d + 1) = false) ∨ (ok = true ∧ decide (0 ≤ x) = true ∧ decide (x ≤ d + 1) = true) := by
        cases ok <;> simp
        omega
      have e2 : IntKind.i64.wrap (d + 1) = d + 1 := IntWalk.i64_in _ ⟨by omega, by omega⟩
      rcases hcase with rfl | ⟨rfl, hx1⟩ | ⟨rfl, hx1, hx2⟩ | ⟨rfl, hx1, hx2⟩
      · go_wp2
        go_quiet (fail)
        go_wp2
        go_roundw
        case rel => exact ⟨q + 1, by omega, by go_num, by rw [HNN.out]; rfl, below_drewN hb.out _⟩
        case measure => simp [intOf]; omega
      · have hx3 : outB 0 (d + 2) x = true := by unfold outB; simp at hx1 ⊢; omega
        go_wp2
        go_quiet (fail)
        go_wp2
        go_roundw
        case rel => exact ⟨q + 1, by omega, by go_num, by rw [HNN.out, hx3]; rfl, below_drewN hb.out _⟩
        case measure => simp [intOf]; omega
      · have hx3 : outB 0 (d + 2) x = true := by unfold outB; simp at hx1 hx2 ⊢; omega
        go_wp2
        go_quiet (fail)
        go_wp2
        go_roundw
        case rel => exact ⟨q + 1, by omega, by go_num, by rw [HNN.out, hx3]; rfl, below_drewN hb.out _⟩
        case measure => simp [intOf]; omega
      · have hx3 : outB 0 (d + 2) x = false := by unfold outB; simp at hx1 hx2 ⊢; omega
        go_wp2
        go_quiet (fail)
        go_wp2
        go_roundw
        case rel => exact ⟨q + 1, by omega, by go_num, by rw [HNN.out, hx3]; rfl, below_drewN hb.out _⟩
        case measure => simp [intOf]; omega
    · obtain rfl : q = hl := by omega
      have hgood := HGOOD.out _ rfl
      have BB := Lib.hid (HB.out.trans (hb.out.mono (by omega)))
      have htk : hs.take q = hs := List.take_of_length_le (by rw [HTL.out]; exact Nat.le_refl _)
      rw [htk]
      generalize (((q : Int) == (n : Int)) && !(hs.any (outB 0 (d + 2)))) = ok at *
      clear hb htk
      cases ok
      · clear hgood
        cases down
        · go_wp2
          refine bodyPost_ret (v := .tuple #[tripV false 0 none 0 0 false, .int .i64 15]) ?_ rfl ?_
          · simp [results, Try.results15, go_sem, c3']
          · rw [HTT.out]
            refine trip_nil ?_
            repeat' (first | (with_reducible exact BB.out) | (with_reducible refine Below.setCell ?_ ?_ _; rotate_left; (simp <;> omega)) | (with_reducible refine Below.alloc ?_ ?_ _; rotate_left; (simp <;> omega)))
        · go_wp2
          refine bodyPost_ret (v := .tuple #[tripV false 0 none 0 0 false, .int .i64 15]) ?_ rfl ?_
          · simp [results, Try.results15, go_sem, c3']
          · rw [HTT.out]
            refine trip_nil ?_
            repeat' (first | (with_reducible exact BB.out) | (with_reducible refine Below.setCell ?_ ?_ _; rotate_left; (simp <;> omega)) | (with_reducible refine Below.alloc ?_ ?_ _; rotate_left; (simp <;> omega)))
      · obtain ⟨g1, g2⟩ := hgood rfl
        cases down
        · have g3 : (first == -1) = false := by simpa using g1 rfl
          clear g1 g2
          go_wp2
          refine bodyPost_ret (v := .tuple #[tripV false 0 none 0 0 false, .int .i64 15]) ?_ rfl ?_
          · simp [results, Try.results15, go_sem, c3']
          · rw [HTT.out]
            refine trip_nil ?_
            repeat' (first | (with_reducible exact BB.out) | (with_reducible refine Below.setCell ?_ ?_ _; rotate_left; (simp <;> omega)) | (with_reducible refine Below.alloc ?_ ?_ _; rotate_left; (simp <;> omega)))
        · rcases g2 rfl with g3 | g3
          · have g4 : decide (0 ≤ first) = false := by simp; omega
            clear g1 g2
            go_wp2
            refine bodyPost_ret (v := .tuple #[tripV false 0 none 0 0 false, .int .i64 15]) ?_ rfl ?_
            · simp [results, Try.results15, go_sem, c3']
            · rw [HTT.out]
              refine trip_nil ?_
              repeat' (first | (with_reducible exact BB.out) | (with_reducible refine Below.setCell ?_ ?_ _; rotate_left; (simp <;> omega)) | (with_reducible refine Below.alloc ?_ ?_ _; rotate_left; (simp <;> omega)))
          · have g4 : 0 ≤ first := by omega
            have g5 : decide (first < (n : Int)) = false := by simp; omega
            clear g1 g2
            go_wp2
            refine bodyPost_ret (v := .tuple #[tripV false 0 none 0 0 false, .int .i64 15]) ?_ rfl ?_
            · simp [results, Try.results15, go_sem, c3']
            · rw [HTT.out]
              refine trip_nil ?_
              repeat' (first | (with_reducible exact BB.out) | (with_reducible refine Below.setCell ?_ ?_ _; rotate_left; (simp <;> omega)) | (with_reducible refine Below.alloc ?_ ?_ _; rotate_left; (simp <;> omega)))
end Go.Proofs.Ytdofkakbfolpkaa.Sf
