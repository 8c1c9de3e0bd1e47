/-
  What is wrong with a guard, as the document says it. Conditions: the guard reads, within the reach.
-/
import Derived.Test.YtdofkakbfolpkaaSf4
import Derived.Deep.DeepCutAuto
namespace Go.Proofs.Ytdofkakbfolpkaa.Sf
open Go.RowKit Go.Proofs.Ytdofkakbfolpkaa.W Go.Proofs.Ytdofkakbfolpkaa.Ints Go.Proofs.Ytdofkakbfolpkaa.Pop

theorem any_take_next {f : Int → Bool} {xs : List Int} {k : Nat} (hk : k < xs.length) : (xs.take (k + 1)).any f = ((xs.take k).any f || f (xs.getD k 0)) := by
  rw [List.take_succ_eq_append_getElem hk, List.any_append]
  simp [List.getD_eq_getElem?_getD, List.getElem?_eq_getElem hk]
def dupB (xs : List Int) : Bool := !decide xs.Nodup
theorem dup_snoc (l : List Int) (x : Int) : dupB (l ++ [x]) = (dupB l || l.any (fun y => x == y)) := by
  unfold dupB
  rw [Bool.eq_iff_iff]
  simp [List.nodup_append]
theorem dup_next {xs : List Int} {k : Nat} (hk : k < xs.length) : dupB (xs.take (k + 1)) = (dupB (xs.take k) || (xs.take k).any (fun y => xs.getD k 0 == y)) := by
  rw [List.take_succ_eq_append_getElem hk, dup_snoc]
  simp [List.getD_eq_getElem?_getD, List.getElem?_eq_getElem hk]
theorem any_more {f : Int → Bool} {xs : List Int} {k j : Nat} (h : k ≤ j) (ha : (xs.take k).any f = true) : (xs.take j).any f = true := by
  rw [List.any_eq_true] at ha ⊢
  obtain ⟨x, hx, hf⟩ := ha
  obtain ⟨i, hi, rfl⟩ := List.mem_take_iff_getElem.1 hx
  exact ⟨_, List.mem_take_iff_getElem.2 ⟨i, by omega, rfl⟩, hf⟩
theorem code_name {m need : Int} {xs : List Int} (h : xs.any (outB 0 m) = true) : codeF m need xs = 6 := by
  unfold codeF
  rw [if_neg (by intro h0; rw [List.length_eq_zero_iff] at h0; subst h0; simp at h), if_pos h]
theorem code_empty {m need : Int} {xs : List Int} (h : xs.length = 0) : codeF m need xs = 4 := by
  unfold codeF
  rw [if_pos h]
theorem code_twice {m need : Int} {xs : List Int} (h : xs.any (outB 0 m) = false) (hd : dupB xs = true) : codeF m need xs = 7 := by
  unfold codeF
  have hn : ¬ xs.Nodup := by simpa [dupB] using hd
  rw [if_neg (by intro h0; rw [List.length_eq_zero_iff] at h0; subst h0; simp at hn), if_neg (by simp [h]), if_neg hn]
theorem code_need {m need : Int} {xs : List Int} (h0 : xs.length ≠ 0) (h : xs.any (outB 0 m) = false) (hd : dupB xs = false) : codeF m need xs = if need < 1 ∨ (xs.length : Int) < need then 3 else 0 := by
  unfold codeF
  have hn : xs.Nodup := by simpa [dupB] using hd
  rw [if_neg h0, if_neg (by simp [h]), if_pos hn]

theorem guarded_size (m d : Int) (Q : Option Addr) (n c : Nat) (vs : List VD) (w : World) (hr : GRd w Q n vs) (h : sizeBad m (vs.map VD.pl)) :
    Calls Try.prog 11 #[guardV m d Q n c] w fun e w' => e = .returned (faultV (guardF m d (vs.map VD.pl))) ∧ Below w.heap.size w w' := by
  have hl : (vs.map VD.pl).length = n := by rw [List.length_map]; exact hr.len
  have hg : guardF m d (vs.map VD.pl) = (4, 0) := by unfold guardF; rw [if_pos h]
  rw [hg]
  have hw := size_ways hl h
  generalize vs.map VD.pl = ps at *
  clear hg h hr hl
  rcases hw with h1 | ⟨h0, h1⟩ | ⟨h0, h1, rfl⟩ | ⟨h0, h1, h2⟩
  · go_enter Try.func11, Try.ntmps11
    go_wp2
    refine bodyPost_ret (v := faultV (4, 0)) (by simp [results, Try.results11, go_sem]) rfl ?_
    exact ⟨rfl, below2 w _ _⟩
  · go_enter Try.func11, Try.ntmps11
    go_wp2
    refine bodyPost_ret (v := faultV (4, 0)) (by simp [results, Try.results11, go_sem]) rfl ?_
    exact ⟨rfl, below2 w _ _⟩
  · go_enter Try.func11, Try.ntmps11
    go_wp2
    refine bodyPost_ret (v := faultV (4, 0)) (by simp [results, Try.results11, go_sem]) rfl ?_
    exact ⟨rfl, below2 w _ _⟩
  · have h3 : 1 ≤ n := by omega
    go_enter Try.func11, Try.ntmps11
    go_wp2
    refine bodyPost_ret (v := faultV (4, 0)) (by simp [results, Try.results11, go_sem]) rfl ?_
    exact ⟨rfl, below2 w _ _⟩
theorem guarded_delay (m d : Int) (Q : Option Addr) (n c : Nat) (vs : List VD) (w : World) (hr : GRd w Q n vs) (h : ¬ sizeBad m (vs.map VD.pl)) (hd : d < 0 ∨ 1000 < d) :
    Calls Try.prog 11 #[guardV m d Q n c] w fun e w' => e = .returned (faultV (guardF m d (vs.map VD.pl))) ∧ Below w.heap.size w w' := by
  have hl : (vs.map VD.pl).length = n := by rw [List.length_map]; exact hr.len
  have hg : guardF m d (vs.map VD.pl) = (3, 0) := by unfold guardF; rw [if_neg h, if_pos hd]
  rw [hg]
  have hw : 1 ≤ m ∧ m ≤ 64 ∧ 1 ≤ n ∧ n ≤ 16 := by unfold sizeBad at h; omega
  generalize vs.map VD.pl = ps at *
  clear hg h hr hl
  obtain ⟨m1, m2, n1, n2⟩ := hw
  by_cases d0 : d < 0
  · clear hd
    go_enter Try.func11, Try.ntmps11
    go_wp2
    refine bodyPost_ret (v := faultV (3, 0)) (by simp [results, Try.results11, go_sem]) rfl ?_
    exact ⟨rfl, below2 w _ _⟩
  · have d1 : 0 ≤ d := by omega
    have d2 : 1000 < d := by omega
    clear hd d0
    go_enter Try.func11, Try.ntmps11
    go_wp2
    refine bodyPost_ret (v := faultV (3, 0)) (by simp [results, Try.results11, go_sem]) rfl ?_
    exact ⟨rfl, below2 w _ _⟩

set_option maxRecDepth 100000 in
set_option maxHeartbeats 6400000 in
theorem Guarded_any (m d : Int) (Q : Option Addr) (n c : Nat) (vs : List VD) (w : World) (hr : GRd w Q n vs) :
    Calls Try.prog 11 #[guardV m d Q n c] w fun e w' => e = .returned (faultV (guardF m d (vs.map VD.pl))) ∧ Below w.heap.size w w' := by
  by_cases h : sizeBad m (vs.map VD.pl)
  · exact guarded_size m d Q n c vs w hr h
  by_cases hd : d < 0 ∨ 1000 < d
  · exact guarded_delay m d Q n c vs w hr h hd
  have hl := hr.len
  have hlp : (vs.map VD.pl).length = n := by rw [List.length_map]; exact hl
  have hw : 1 ≤ m ∧ m ≤ 64 ∧ 1 ≤ n ∧ n ≤ 16 := by unfold sizeBad at h; omega
  obtain ⟨m1, m2, n1, n2⟩ := hw
  have d1 : 0 ≤ d := by omega
  have d2 : d ≤ 1000 := by omega
  have HGB : Hid (∀ (k : Nat) (v : VD), vs[k]? = some v → badV m v.pl = true → ((vs.map VD.pl).take k).any (badV m) = false → guardF m d (vs.map VD.pl) = (codeF m v.need v.of, (k : Int))) :=
    fun k v ht hb ha => (guard_bad h hd (pl_at ht) hb ha).1
  have HGO : Hid ((vs.map VD.pl).any (badV m) = false → guardF m d (vs.map VD.pl) = (0, 0)) := fun ha => (guard_ok h hd ha).1
  have HR := Lib.hid hr
  have HL := Lib.hid hl
  have HLP := Lib.hid hlp
  generalize guardF m d (vs.map VD.pl) = G at *
  clear h hd hr hl hlp
  go_enter Try.func11, Try.ntmps11
  go_wp2
  generalize hW : World.alloc (w.alloc _) _ = W
  have k0 : Blk W w.heap.size 24 #[.int .i64 m, .int .i64 d, .slice Q n c] := by rw [← hW]; exact (Blk.new w _ _).alloc _
  have k1 : Blk W (w.heap.size + 1) 33 #[.int .i64 0, .int .i64 0, .int .i64 0] := by
    rw [← hW]
    have h := Blk.new (w.alloc (.cells #[.int .i64 m, .int .i64 d, .slice Q n c] 24)) 33 #[.int .i64 0, .int .i64 0, .int .i64 0]
    simpa only [World.size_alloc] using h
  have B0 : Hid (Below w.heap.size w W) := by rw [← hW]; exact below2 _ _ _
  have zW : W.heap.size = w.heap.size + 2 := by rw [← hW]; simp
  have K0 := Lib.hid k0
  have K1 := Lib.hid k1
  have ZW := Lib.hid zW
  clear hW k0 k1 zW
  go_loopw [3, 4, 5, 6, 7, 8, 9, 102, 107, 109, 111] (fun i _ _ _ _ _ _ _ _ _ _ wr => ∃ k : Nat, k ≤ n ∧ i = .int .i64 k ∧ Hid (Below W.heap.size W wr) ∧ Hid (((vs.map VD.pl).take k).any (badV m) = false)) (fun i _ _ _ _ _ _ _ _ _ _ _ => n - (intOf i).toNat)
  case atStart => exact ⟨0, Nat.zero_le _, rfl, Below.refl _ _, by simp [Hid]⟩
  case round =>
    obtain ⟨k, hk, rfl, hb, ha⟩ := hrel
    have c0' := (K0.out.below hb.out).cell
    have c1' := (K1.out.below hb.out).cell
    have f1' := (K1.out.below hb.out).frozen
    have hz := hb.out.size
    have hzW := ZW.out
    have z0 : w.heap.size < wr.heap.size := by omega
    have z1 : w.heap.size + 1 < wr.heap.size := by omega
    by_cases hlt : k < n
    · obtain ⟨b, o, v, rfl, ht, hbl, d0, e0, hrv, hvn, hvc⟩ := vote_at (HR.out.below (B0.out.trans (hb.out.mono (by omega)))) hlt
      have HT := Lib.hid ht
      have HV := Lib.hid hrv
      have HLV := Lib.hid (rd_len hrv)
      have hk0 : (0 : Int) ≤ (k : Int) := by omega
      have hkn : (k : Int) < (n : Int) := by omega
      clear ht hrv
      obtain ⟨need, A, vn, vc, of⟩ := v
      simp only at d0 e0 hvn hvc
      go_wp2
      generalize hW1 : World.alloc wr _ = W1
      have k2 : Blk W1 wr.heap.size 50 #[.int .i64 need, .slice A vn vc] := by rw [← hW1]; exact Blk.new wr _ _
      have b1 : Below wr.heap.size wr W1 := by rw [← hW1]; exact below_alloc _
      have z2 : W1.heap.size = wr.heap.size + 1 := by rw [← hW1]; simp
      have K2 := Lib.hid k2
      have B1 := Lib.hid (hb.out.trans (b1.mono hz))
      have HV1 := Lib.hid (HV.out.below b1)
      have Z2 := Lib.hid z2
      clear hW1 k2 b1 z2 c0' c1' f1' d0 e0 HV hb
      obtain ⟨w0, h⟩ : ∃ w0 : World, w0 = wr := ⟨_, rfl⟩
      subst h
      go_loopw [5, 6, 7, 8] (fun nm tw j _ wr => ∃ (jj : Nat) (t : Bool), jj ≤ vn ∧ j = .int .i64 jj ∧ nm = .bool ((of.take jj).any (outB 0 m)) ∧ tw = .bool t ∧ Hid ((of.take jj).any (outB 0 m) = false → t = dupB (of.take jj)) ∧ Hid (Below W1.heap.size W1 wr)) (fun _ _ j _ _ => vn - (intOf j).toNat)
      case atStart => exact ⟨0, false, Nat.zero_le _, rfl, by simp, rfl, by simp [Hid, dupB], Below.refl _ _⟩
      case round =>
        obtain ⟨j, t, hj, rfl, rfl, rfl, hd, hb⟩ := hrel
        have z2 := Z2.out
        have hz' := hb.out.size
        have c0' := (K0.out.below (B1.out.trans (hb.out.mono (by omega)))).cell
        have c1' := (K1.out.below (B1.out.trans (hb.out.mono (by omega)))).cell
        have f1' := (K1.out.below (B1.out.trans (hb.out.mono (by omega)))).frozen
        have c2' := (K2.out.below hb.out).cell
        have w0lt : w.heap.size < wr.heap.size := by omega
        have w1lt : w.heap.size + 1 < wr.heap.size := by omega
        have w2lt : w0.heap.size < wr.heap.size := by omega
        by_cases hjl : j < vn
        · obtain ⟨b', o', rfl, hc⟩ := rd_at (HV1.out.below hb.out) (by omega)
          have h1 := hc j hjl
          clear hc
          have hjl' : j < of.length := by rw [HLV.out]; exact hjl
          have HN := Lib.hid (any_take_next (f := outB 0 m) hjl')
          have HD := Lib.hid (dup_next hjl')
          have hj0 : (0 : Int) ≤ (j : Int) := by omega
          have hjv : (j : Int) < (vn : Int) := by omega
          generalize hx : of.getD j 0 = x at *
          have HX := Lib.hid hx
          clear hx
          generalize hnm : (of.take j).any (outB 0 m) = nm at *
          have HNM := Lib.hid hnm
          clear hnm
          have hcase : nm = true ∨ (nm = false ∧ decide (x < 0) = true) ∨ (nm = false ∧ decide (x < 0) = false ∧ decide (m ≤ x) = true) ∨ (nm = false ∧ decide (x < 0) = false ∧ decide (m ≤ x) = false) := by
            cases nm <;> simp
            omega
          rcases hcase with rfl | ⟨rfl, hx1⟩ | ⟨rfl, hx1, hx2⟩ | ⟨rfl, hx1, hx2⟩
          · have HNN : Hid ((of.take (j + 1)).any (outB 0 m) = true) := by rw [Hid, HN.out]; rfl
            go_wp2
            go_quiet (fail)
            go_wp2
            clear HN c0' c1' f1' c2' h1 hd
            obtain ⟨wj, h⟩ : ∃ w0 : World, w0 = wr := ⟨_, rfl⟩
            subst h
            go_loopw [6, 8] (fun tw kk wr => ∃ (q : Nat) (t' : Bool), q ≤ j ∧ kk = .int .i64 q ∧ tw = .bool t' ∧ Hid (Below W1.heap.size W1 wr)) (fun _ kk _ => j - (intOf kk).toNat)
            case atStart => exact ⟨0, t, Nat.zero_le _, rfl, rfl, below_drewN hb.out _⟩
            case round =>
              obtain ⟨q, t', hq, rfl, rfl, hb'⟩ := hrel
              have hz2 := hb'.out.size
              have c2' := (K2.out.below hb'.out).cell
              have w2lt' : w0.heap.size < wr.heap.size := by omega
              have HE : Hid ((of.take (j + 1)).any (outB 0 m) = false → t' = dupB (of.take (j + 1))) := by rw [HNN.out]; exact fun h => absurd h (by decide)
              by_cases hqj : q < j
              · have hqj' : (q : Int) < (j : Int) := by omega
                cases t'
                · go_wp2
                  go_roundw
                  case rel => exact ⟨j + 1, _, by omega, by go_num, by rw [HNN.out], rfl, HE, hb'⟩
                  case measure => simp [intOf]; omega
                · go_wp2
                  go_roundw
                  case rel => exact ⟨j + 1, _, by omega, by go_num, by rw [HNN.out], rfl, HE, hb'⟩
                  case measure => simp [intOf]; omega
              · obtain rfl : q = j := by omega
                go_wp2
                go_roundw
                case rel => exact ⟨q + 1, _, by omega, by go_num, by rw [HNN.out], rfl, HE, hb'⟩
                case measure => simp [intOf]; omega
          · have HNN : Hid ((of.take (j + 1)).any (outB 0 m) = true) := by rw [Hid, HN.out]; unfold outB; rw [hx1]; rfl
            go_wp2
            go_quiet (fail)
            go_wp2
            clear HN c0' c1' f1' c2' h1 hx1 hd
            obtain ⟨wj, h⟩ : ∃ w0 : World, w0 = wr := ⟨_, rfl⟩
            subst h
            go_loopw [6, 8] (fun tw kk wr => ∃ (q : Nat) (t' : Bool), q ≤ j ∧ kk = .int .i64 q ∧ tw = .bool t' ∧ Hid (Below W1.heap.size W1 wr)) (fun _ kk _ => j - (intOf kk).toNat)
            case atStart => exact ⟨0, t, Nat.zero_le _, rfl, rfl, below_drewN hb.out _⟩
            case round =>
              obtain ⟨q, t', hq, rfl, rfl, hb'⟩ := hrel
              have hz2 := hb'.out.size
              have c2' := (K2.out.below hb'.out).cell
              have w2lt' : w0.heap.size < wr.heap.size := by omega
              have HE : Hid ((of.take (j + 1)).any (outB 0 m) = false → t' = dupB (of.take (j + 1))) := by rw [HNN.out]; exact fun h => absurd h (by decide)
              by_cases hqj : q < j
              · have hqj' : (q : Int) < (j : Int) := by omega
                cases t'
                · go_wp2
                  go_roundw
                  case rel => exact ⟨j + 1, _, by omega, by go_num, by rw [HNN.out], rfl, HE, hb'⟩
                  case measure => simp [intOf]; omega
                · go_wp2
                  go_roundw
                  case rel => exact ⟨j + 1, _, by omega, by go_num, by rw [HNN.out], rfl, HE, hb'⟩
                  case measure => simp [intOf]; omega
              · obtain rfl : q = j := by omega
                go_wp2
                go_roundw
                case rel => exact ⟨q + 1, _, by omega, by go_num, by rw [HNN.out], rfl, HE, hb'⟩
                case measure => simp [intOf]; omega
          · have HNN : Hid ((of.take (j + 1)).any (outB 0 m) = true) := by rw [Hid, HN.out]; unfold outB; rw [hx1, hx2]; rfl
            go_wp2
            go_quiet (fail)
            go_wp2
            clear HN c0' c1' f1' c2' h1 hx1 hx2 hd
            obtain ⟨wj, h⟩ : ∃ w0 : World, w0 = wr := ⟨_, rfl⟩
            subst h
            go_loopw [6, 8] (fun tw kk wr => ∃ (q : Nat) (t' : Bool), q ≤ j ∧ kk = .int .i64 q ∧ tw = .bool t' ∧ Hid (Below W1.heap.size W1 wr)) (fun _ kk _ => j - (intOf kk).toNat)
            case atStart => exact ⟨0, t, Nat.zero_le _, rfl, rfl, below_drewN hb.out _⟩
            case round =>
              obtain ⟨q, t', hq, rfl, rfl, hb'⟩ := hrel
              have hz2 := hb'.out.size
              have c2' := (K2.out.below hb'.out).cell
              have w2lt' : w0.heap.size < wr.heap.size := by omega
              have HE : Hid ((of.take (j + 1)).any (outB 0 m) = false → t' = dupB (of.take (j + 1))) := by rw [HNN.out]; exact fun h => absurd h (by decide)
              by_cases hqj : q < j
              · have hqj' : (q : Int) < (j : Int) := by omega
                cases t'
                · go_wp2
                  go_roundw
                  case rel => exact ⟨j + 1, _, by omega, by go_num, by rw [HNN.out], rfl, HE, hb'⟩
                  case measure => simp [intOf]; omega
                · go_wp2
                  go_roundw
                  case rel => exact ⟨j + 1, _, by omega, by go_num, by rw [HNN.out], rfl, HE, hb'⟩
                  case measure => simp [intOf]; omega
              · obtain rfl : q = j := by omega
                go_wp2
                go_roundw
                case rel => exact ⟨q + 1, _, by omega, by go_num, by rw [HNN.out], rfl, HE, hb'⟩
                case measure => simp [intOf]; omega
          · have HNN : Hid ((of.take (j + 1)).any (outB 0 m) = false) := by rw [Hid, HN.out]; unfold outB; rw [hx1, hx2]; rfl
            go_wp2
            go_quiet (fail)
            go_wp2
            clear HN c0' c1' f1' c2' h1 hx1 hx2
            obtain ⟨wj, h⟩ : ∃ w0 : World, w0 = wr := ⟨_, rfl⟩
            subst h
            go_loopw [6, 8] (fun tw kk wr => ∃ (q : Nat) (t' : Bool), q ≤ j ∧ kk = .int .i64 q ∧ tw = .bool t' ∧ Hid (t' = (t || (of.take q).any (fun y => x == y))) ∧ Hid (Below W1.heap.size W1 wr)) (fun _ kk _ => j - (intOf kk).toNat)
            case atStart => exact ⟨0, t, Nat.zero_le _, rfl, rfl, by simp [Hid], below_drewN hb.out _⟩
            case round =>
              obtain ⟨q, t', hq, rfl, rfl, hr', hb'⟩ := hrel
              have hz2 := hb'.out.size
              have c2' := (K2.out.below hb'.out).cell
              have w2lt' : w0.heap.size < wr.heap.size := by omega
              have hdd := hd.out trivial
              by_cases hqj : q < j
              · have hqj' : (q : Int) < (j : Int) := by omega
                cases t'
                · obtain ⟨b2, o2, e2, hc2⟩ := rd_at (HV1.out.below hb'.out) (by omega)
                  injection e2 with e2
                  injection e2 with e2 e3
                  subst e2 e3
                  have h1 := hc2 j hjl
                  have h2 := hc2 q (by omega)
                  have HNQ := Lib.hid (any_take_next (f := fun y => x == y) (xs := of) (k := q) (by omega))
                  rw [HX.out] at h1
                  clear hc2
                  generalize of.getD q 0 = y at *
                  have hq0 : (0 : Int) ≤ (q : Int) := by omega
                  have hqv : (q : Int) < (vn : Int) := by omega
                  go_wp2
                  go_quiet (fail)
                  go_wp2
                  go_roundw
                  case rel => exact ⟨q + 1, _, by omega, by go_num, rfl, by rw [Hid, HNQ.out, ← Bool.or_assoc, ← hr'.out]; simp, below_drewN hb'.out _⟩
                  case measure => simp [intOf]; omega
                · have HE : Hid ((of.take (j + 1)).any (outB 0 m) = false → true = dupB (of.take (j + 1))) := by
                    intro _
                    rw [HD.out, ← hdd]
                    have := hr'.out
                    cases t
                    · simp only [Bool.false_or] at this ⊢
                      exact (any_more hq this.symm).symm
                    · simp
                  go_wp2
                  go_roundw
                  case rel => exact ⟨j + 1, _, by omega, by go_num, by rw [HNN.out], rfl, HE, hb'⟩
                  case measure => simp [intOf]; omega
              · obtain rfl : q = j := by omega
                have HE : Hid ((of.take (q + 1)).any (outB 0 m) = false → t' = dupB (of.take (q + 1))) := by
                  intro _
                  rw [HD.out, ← hdd]
                  exact hr'.out
                cases t'
                all_goals go_wp2
                all_goals go_roundw
                case rel => exact ⟨q + 1, _, by omega, by go_num, by rw [HNN.out], rfl, HE, hb'⟩
                case measure => simp [intOf]; omega
                case rel => exact ⟨q + 1, _, by omega, by go_num, by rw [HNN.out], rfl, HE, hb'⟩
                case measure => simp [intOf]; omega
        · obtain rfl : j = vn := by omega
          have htk : of.take j = of := List.take_of_length_le (by rw [HLV.out]; omega)
          rw [htk] at hd
          try rw [htk]
          have HBAD : Hid (∀ e, codeF m need of = e → e ≠ 0 → G = (codeF m need of, (k : Int))) := fun e he h0 => HGB.out k _ HT.out (by simp [badV, VD.pl, he, h0]) ha.out
          have BB := Lib.hid (B0.out.trans ((B1.out.trans (hb.out.mono (by omega))).mono (by omega) : Below w.heap.size W wr))
          generalize hnm : of.any (outB 0 m) = nm at *
          have HNM := Lib.hid hnm
          clear hnm htk
          by_cases hj0 : j = 0
          · subst hj0
            have HC := Lib.hid (code_empty (m := m) (need := need) HLV.out)
            have HB := Lib.hid (HBAD.out 4 HC.out (by decide))
            go_wp2
            refine bodyPost_ret (v := faultV (4, k)) ?_ rfl ?_
            · simp [results, Try.results11, go_sem, c1']
            · refine ⟨by rw [HB.out]; simp only [HC.out], ?_⟩
              repeat' (first | (with_reducible exact BB.out) | (with_reducible refine Below.setCell ?_ ?_ _; rotate_left; (simp <;> omega)))
          have hj1 : ((j : Int) == 0) = false := by simp; omega
          cases nm
          · have hdd := hd.out rfl
            cases t
            · have HCN := Lib.hid (code_need (m := m) (need := need) (by rw [HLV.out]; exact hj0) HNM.out hdd.symm)
              clear hd hdd
              by_cases q1 : need < 1
              · have HC : Hid (codeF m need of = 3) := by rw [Hid, HCN.out, if_pos (.inl q1)]
                have HB := Lib.hid (HBAD.out 3 HC.out (by decide))
                go_wp2
                refine bodyPost_ret (v := faultV (3, k)) ?_ rfl ?_
                · simp [results, Try.results11, go_sem, c1']
                · refine ⟨by rw [HB.out]; simp only [HC.out], ?_⟩
                  repeat' (first | (with_reducible exact BB.out) | (with_reducible refine Below.setCell ?_ ?_ _; rotate_left; (simp <;> omega)))
              · by_cases q2 : (j : Int) < need
                · have HC : Hid (codeF m need of = 3) := by rw [Hid, HCN.out, HLV.out, if_pos (.inr q2)]
                  have HB := Lib.hid (HBAD.out 3 HC.out (by decide))
                  have q1' : 1 ≤ need := by omega
                  clear q1
                  go_wp2
                  refine bodyPost_ret (v := faultV (3, k)) ?_ rfl ?_
                  · simp [results, Try.results11, go_sem, c1']
                  · refine ⟨by rw [HB.out]; simp only [HC.out], ?_⟩
                    repeat' (first | (with_reducible exact BB.out) | (with_reducible refine Below.setCell ?_ ?_ _; rotate_left; (simp <;> omega)))
                · have HC : Hid (codeF m need of = 0) := by rw [Hid, HCN.out, HLV.out, if_neg (by omega)]
                  have q1' : 1 ≤ need := by omega
                  have q2' : need ≤ (j : Int) := by omega
                  have HNX := Lib.hid (bad_next (pl_at HT.out) ha.out (by simp [badV, VD.pl, HC.out]))
                  have hbb := Lib.hid (B1.out.trans (hb.out.mono (by omega)) : Below W.heap.size W wr)
                  clear q1 q2
                  go_wp2
                  go_roundw
                  case rel => exact ⟨k + 1, by omega, by go_num, hbb, HNX⟩
                  case measure => simp [intOf]; omega
            · have HC := Lib.hid (code_twice (m := m) (need := need) HNM.out hdd.symm)
              have HB := Lib.hid (HBAD.out 7 HC.out (by decide))
              clear hd hdd
              go_wp2
              refine bodyPost_ret (v := faultV (7, k)) ?_ rfl ?_
              · simp [results, Try.results11, go_sem, c1']
              · refine ⟨by rw [HB.out]; simp only [HC.out], ?_⟩
                repeat' (first | (with_reducible exact BB.out) | (with_reducible refine Below.setCell ?_ ?_ _; rotate_left; (simp <;> omega)))
          · have HC := Lib.hid (code_name (m := m) (need := need) HNM.out)
            have HB := Lib.hid (HBAD.out 6 HC.out (by decide))
            clear hd
            go_wp2
            refine bodyPost_ret (v := faultV (6, k)) ?_ rfl ?_
            · simp [results, Try.results11, go_sem, c1']
            · refine ⟨by rw [HB.out]; simp only [HC.out], ?_⟩
              repeat' (first | (with_reducible exact BB.out) | (with_reducible refine Below.setCell ?_ ?_ _; rotate_left; (simp <;> omega)))
    · obtain rfl : k = n := by omega
      have HX := Lib.hid (HGO.out (by have h := ha.out; rwa [List.take_of_length_le (by rw [HLP.out]; omega)] at h))
      go_wp2
      refine bodyPost_ret (v := faultV (0, 0)) ?_ rfl ?_
      · simp [results, Try.results11, go_sem, c1']
      · have BB : Below w.heap.size w wr := B0.out.trans (hb.out.mono (by omega))
        refine ⟨by rw [HX.out], ?_⟩
        repeat' (first | (with_reducible exact BB) | (with_reducible refine Below.setCell ?_ ?_ _; rotate_left; (simp <;> omega)))
end Go.Proofs.Ytdofkakbfolpkaa.Sf
