/-
  The order of tasks by the library's stable sort: few enough that it is an insertion sort. Conditions: the list reads; the tasks are right; the row of numbers is the call's own.
-/
import Derived.Test.YthnpeekeoaiaoaaOrd1
import Derived.Deep.QuietTactic
import Derived.BigQuiet
import Derived.BigRegion
namespace Go.Proofs.Ythnpeekeoaiaoaa.Task
open Go.RowKit Go.Proofs.Ythnpeekeoaiaoaa.W Go.Proofs.Ythnpeekeoaiaoaa.Ints

def up (S : List Nat) : List Int := S.map fun k : Nat => (k : Int)
theorem up_len (S : List Nat) : (up S).length = S.length := by simp [up]
theorem up_app (S T : List Nat) : up (S ++ T) = up S ++ up T := by simp [up]
theorem row_at {P R : List Nat} {x : Nat} : (ints (up (P ++ x :: R)))[P.length]? = some (.int .i64 x) := by simp [up, ints]
theorem row_swap {P R : List Nat} {x y m : Nat} (hm : P.length = m) : ((ints (up (P ++ y :: x :: R))).set (m + 1) (.int .i64 y)).set m (.int .i64 x) = ints (up (P ++ x :: y :: R)) := by
  subst hm
  simp [up, ints]

theorem grow_drewN {a w : World} {r : Option Nat} (h : a.grownBy w r) (n : Nat) : a.grownBy (w.drewN n) r := ⟨h.os, h.tape, h.output, h.size, h.block⟩
theorem own_drewN {w : World} {base sz n : Nat} {e : TypeId} {v : Value} {xs : List Value} (h : w.ownsRow base e sz v n xs) (k : Nat) : (w.drewN k).ownsRow base e sz v n xs := h

set_option maxHeartbeats 1600000 in
/-- which of two is earlier -/
theorem cmp_any (q : Nat) (A : Option Addr) (n c x y : Nat) (ts : List TD) (w : World) (h0 : w.cell? ⟨q, 0, none⟩ = some (.slice A n c)) (hr : Rd w 5 A n (tasksV ts)) (ha : ts.all TD.okB = true) (hx : x < n) (hy : y < n) :
    Calls Try.prog 29 #[.int .i64 x, .int .i64 y, .pointer (some ⟨q, 0, none⟩)] w fun e w' => e = .returned (.int .i64 (dlF ts x - dlF ts y)) ∧ ∃ k, w' = w.drewN k := by
  obtain ⟨b, o, t, rfl, ht, hbl, _, _, _, _, c4⟩ := task_at hr hx
  obtain ⟨b', o', u, e, hu, _, _, _, _, _, d4⟩ := task_at hr hy
  injection e with e
  injection e with e1 e2
  subst e1 e2
  obtain ⟨p1, p2, p3, p4, p5, p6, _⟩ := ok_parts (get_ok ha ht)
  obtain ⟨u1, u2, u3, u4, u5, u6, _⟩ := ok_parts (get_ok ha hu)
  rw [dl_at ht, dl_at hu]
  have hx0 : (0 : Int) ≤ (x : Int) := by omega
  have hy0 : (0 : Int) ≤ (y : Int) := by omega
  have hxn : (x : Int) < (n : Int) := by omega
  have hyn : (y : Int) < (n : Int) := by omega
  clear hr ha ht hu
  go_enter Try.func29, Try.ntmps29
  go_wp2
  go_quiet (fail)
  go_wp2
  go_ret
  exact ⟨rfl, _, rfl⟩

set_option maxRecDepth 100000 in
set_option maxHeartbeats 6400000 in
theorem ins_any (q base g n cb : Nat) (A : Option Addr) (c : Nat) (ts : List TD) (w : World) (hk : Blk w q 22 #[.slice A n c]) (hr : Rd w 5 A n (tasksV ts)) (ha : ts.all TD.okB = true) (hn : n ≤ 16) (hn1 : 1 ≤ n)
    (hq : q < base) (hA : ∀ a, A = some a → a.block < base) (hg : base ≤ g) (ho : w.ownsRow base 3 1 (.slice (some ⟨g, 0, none⟩) n cb) n (ints (up (List.range n)))) :
    Calls Try.prog 38 #[.slice (some ⟨g, 0, none⟩) n cb, .int .i64 0, .int .i64 n, .func (.func 29) #[] #[.pointer (some ⟨q, 0, none⟩)]] w fun e w' => e = .returned (.tuple #[]) ∧ w.grownBy w' (some g) ∧
      w'.ownsRow base 3 1 (.slice (some ⟨g, 0, none⟩) n cb) n (ints (up (ordTo ts n))) := by
  have HK := Lib.hid hk
  have HR := Lib.hid hr
  have HO := Lib.hid ho
  have HA := Lib.hid ha
  have HAA := Lib.hid hA
  have hqg : q ≠ g := by omega
  have HN : Hid (Grow.refl w (some g) = Grow.refl w (some g)) := rfl
  clear hk hr ho ha hA
  go_enter Try.func38, Try.ntmps38
  go_wp2
  go_loopw [8, 9] (fun iv _ wr => ∃ i : Nat, 1 ≤ i ∧ i ≤ n ∧ iv = .int .i64 i ∧ Hid (w.grownBy wr (some g)) ∧ Hid (wr.ownsRow base 3 1 (.slice (some ⟨g, 0, none⟩) n cb) n (ints (up (ordTo ts i ++ List.range' i (n - i)))))) (fun iv _ _ => n - (intOf iv).toNat)
  case atStart =>
    refine ⟨1, Nat.le_refl _, hn1, rfl, Grow.refl _ _, ?_⟩
    have h := HO.out
    have e : ordTo ts 1 ++ List.range' 1 (n - 1) = List.range n := by
      rw [show ordTo ts 1 = [0] from by simp [ordTo], List.range_eq_range']
      obtain ⟨m, rfl⟩ : ∃ m, n = m + 1 := ⟨n - 1, by omega⟩
      rw [List.range'_succ]
      simp
    rw [e]
    exact h
  case round =>
    clear HO
    obtain ⟨i, hi1, hi, rfl, hgr, ho⟩ := hrel
    by_cases hlt : i < n
    · have hI : (i : Int) < (n : Int) := by omega
      have hs : Hid (ordTo ts i ++ List.range' i (n - i) = ordTo ts i ++ i :: ([] ++ List.range' (i + 1) (n - (i + 1)))) := by
        rw [Hid, show n - i = (n - (i + 1)) + 1 from by omega, List.range'_succ, List.nil_append]
      go_wp2
      obtain ⟨w0, hw0⟩ : ∃ w0 : World, w0 = wr := ⟨_, rfl⟩
      subst hw0
      go_loopw [9] (fun jv wr => ∃ j : Nat, jv = .int .i64 j ∧ ∃ P Q, Hid (ordTo ts i = P ++ Q) ∧ Hid (P.length = j) ∧ Hid (∀ y ∈ Q, dlF ts i < dlF ts y) ∧ Hid (w.grownBy wr (some g)) ∧ Hid (wr.ownsRow base 3 1 (.slice (some ⟨g, 0, none⟩) n cb) n (ints (up (P ++ i :: (Q ++ List.range' (i + 1) (n - (i + 1)))))))) (fun jv _ => (intOf jv).toNat)
      case atStart =>
        refine ⟨i, rfl, ordTo ts i, [], by rw [Hid, List.append_nil], ord_len ts i, fun y h => absurd h (by simp), hgr, ?_⟩
        have h := ho.out
        rw [hs.out] at h
        exact h
      case round =>
        clear hgr ho hs
        obtain ⟨j, rfl, P, Q, hPQ, hPl, hQ, hgr, ho⟩ := hrel
        have hPn : Hid (j ≤ i) := by
          have h := ord_len ts i
          rw [hPQ.out, List.length_append, hPl.out] at h
          rw [Hid]; omega
        rcases Nat.eq_zero_or_pos j with rfl | hj
        · have hfin : Hid (ordTo ts (i + 1) = P ++ i :: Q) := (ord_put hPQ.out hQ.out (fun y h => by
            have : P = [] := List.eq_nil_of_length_eq_zero hPl.out
            subst this
            simp at h)).symm
          have hj0 : decide ((0 : Int) < ((0 : Nat) : Int)) = false := by simp
          go_wp2
          go_quiet (fail)
          go_wp2
          go_roundw
          case rel => exact ⟨i + 1, by omega, by omega, by go_num, grow_drewN hgr.out _, by
            have h := own_drewN ho.out nq
            rw [Hid, hfin.out]
            simpa using h⟩
          case measure => simp [intOf]; omega
        · obtain ⟨m, rfl⟩ : ∃ m, j = m + 1 := ⟨j - 1, by omega⟩
          obtain ⟨P', y, hP⟩ : ∃ P' y, P = P' ++ [y] := ⟨P.dropLast, P.getLast (by rintro rfl; simp [Hid] at hPl), (List.dropLast_concat_getLast _).symm⟩
          subst hP
          have hPm : P'.length = m := by
            have h := hPl.out
            simp at h
            exact h
          have hyi : y < i := (ord_mem ts i y).1 (by rw [hPQ.out]; simp)
          have hin : m + 1 ≤ i := hPn.out
          have hrow : Hid (ints (up ((P' ++ [y]) ++ i :: (Q ++ List.range' (i + 1) (n - (i + 1))))) = ints (up (P' ++ y :: i :: (Q ++ List.range' (i + 1) (n - (i + 1)))))) := by simp [Hid]
          have cj : wr.cell? ⟨g, m + 1, none⟩ = some (.int .i64 i) := by
            rw [ho.out.cellAt (m + 1) (by omega)]
            have h := @row_at (P' ++ [y]) (Q ++ List.range' (i + 1) (n - (i + 1))) i
            rw [List.length_append, hPm] at h
            exact h
          have cm : wr.cell? ⟨g, m, none⟩ = some (.int .i64 y) := by
            rw [ho.out.cellAt m (by omega), hrow.out, ← hPm]
            exact row_at
          have fj := ho.out.frozenAt (m + 1)
          have fm := ho.out.frozenAt m
          have kq := (HK.out.grown hgr.out (by simpa using hqg)).cell 0
          simp at kq
          have HRR := Lib.hid (HR.out.grown hgr.out (fun a h e => by injection e with e; have := HAA.out a h; omega))
          have hmI : ((m + 1 : Nat) : Int) = (m : Int) + 1 := by omega
          rw [hmI]
          have hm0 : (0 : Int) ≤ (m : Int) := by omega
          have hmn : (m : Int) + 1 < (n : Int) := by omega
          have hC : Hid (∀ k, Calls Try.prog 29 #[.int .i64 i, .int .i64 y, .pointer (some ⟨q, 0, none⟩)] (wr.drewN k) fun e w' => e = .returned (.int .i64 (dlF ts i - dlF ts y)) ∧ ∃ m, w' = (wr.drewN k).drewN m) := fun k => cmp_any q A n c i y ts (wr.drewN k) kq (HRR.out.drewN k) HA.out hlt (by omega)
          have hdl : Hid (((P' ++ [y]).getLast? = some y)) := by simp [Hid]
          clear kq
          generalize hD : dlF ts i - dlF ts y = D at hC
          have HD := Lib.hid hD
          clear hD
          by_cases hneg : D < 0
          · have HQ' : Hid (∀ z ∈ y :: Q, dlF ts i < dlF ts z) := by
              intro z hz
              rcases List.mem_cons.1 hz with rfl | hz
              · have := HD.out; omega
              · exact hQ.out z hz
            have HPm := Lib.hid hPm
            have HPQ' : Hid (ordTo ts i = P' ++ y :: Q) := by rw [Hid, hPQ.out]; simp
            clear hPm hPQ
            go_wp2
            go_quiet (first | (go_at_call 29; refine Calls.quiet_of (hC.out _)))
            go_wp2
            go_region
            go_wp2
            go_roundw
            case rel =>
              obtain ⟨g1, g2⟩ := (own_drewN ho.out (nq + 1)).stored (m + 1) (.int .i64 y)
              obtain ⟨g3, g4⟩ := g1.stored m (.int .i64 i)
              rw [hrow.out, row_swap HPm.out] at g3
              exact ⟨m, rfl, P', y :: Q, HPQ', HPm, HQ', Grow.trans (grow_drewN hgr.out (nq + 1)) (Grow.trans g2 g4 (fun _ _ => .inl rfl)) (fun _ _ => .inl rfl), g3⟩
            case measure => simp [intOf]
          · have hneg' : decide (D < 0) = false := decide_eq_false hneg
            have hfin : Hid (ordTo ts (i + 1) = (P' ++ [y]) ++ i :: Q) := (ord_put hPQ.out hQ.out (fun z h => by
              rw [hdl.out] at h
              injection h with h
              subst h
              have := HD.out
              omega)).symm
            clear hPm
            go_wp2
            go_quiet (first | (go_at_call 29; refine Calls.quiet_of (hC.out _)))
            go_wp2
            go_roundw
            case rel => exact ⟨i + 1, by omega, by omega, by go_num, grow_drewN hgr.out _, by
              have h := own_drewN ho.out nq
              rw [Hid, hfin.out]
              simpa using h⟩
            case measure => simp [intOf]; omega
    · obtain rfl : i = n := by omega
      go_wp2
      go_end0
      refine ⟨rfl, hgr.out, ?_⟩
      have h := ho.out
      simpa using h

set_option maxHeartbeats 1600000 in
theorem stable_any (q base g n cb : Nat) (A : Option Addr) (c : Nat) (ts : List TD) (w : World) (hk : Blk w q 22 #[.slice A n c]) (hr : Rd w 5 A n (tasksV ts)) (ha : ts.all TD.okB = true) (hn : n ≤ 16) (hn1 : 1 ≤ n)
    (hq : q < base) (hA : ∀ a, A = some a → a.block < base) (hg : base ≤ g) (ho : w.ownsRow base 3 1 (.slice (some ⟨g, 0, none⟩) n cb) n (ints (up (List.range n)))) :
    Calls Try.prog 35 #[.slice (some ⟨g, 0, none⟩) n cb, .int .i64 n, .func (.func 29) #[] #[.pointer (some ⟨q, 0, none⟩)]] w fun e w' => e = .returned (.tuple #[]) ∧ w.grownBy w' (some g) ∧
      w'.ownsRow base 3 1 (.slice (some ⟨g, 0, none⟩) n cb) n (ints (up (ordTo ts n))) := by
  have HC := Lib.hid (ins_any q base g n cb A c ts w hk hr ha hn hn1 hq hA hg ho)
  have hn20 : (n : Int) < 20 := by omega
  clear hk hr ho ha hA
  go_enter Try.func35, Try.ntmps35
  go_wp2
  go_loopw [7, 8] (fun a b wr => a = .int .i64 0 ∧ b = .int .i64 20 ∧ wr = w) (fun _ _ _ => 0)
  case atStart => exact ⟨rfl, rfl, rfl⟩
  case round =>
    obtain ⟨rfl, rfl, rfl⟩ := hrel
    go_wp2_with fail
    refine HC.out.mono ?_
    rintro e w1 ⟨rfl, h1, h2⟩
    have H1 := Lib.hid h1
    have H2 := Lib.hid h2
    clear h1 h2 HC
    go_wp2
    go_loopw [6, 7, 8, 9] (fun a _ _ _ wr => a = .int .i64 20 ∧ wr = w1) (fun _ _ _ _ _ => 0)
    case atStart => exact ⟨rfl, rfl⟩
    case round =>
      obtain ⟨rfl, rfl⟩ := hrel
      go_wp2
      go_end0
      exact ⟨rfl, H1.out, H2.out⟩

theorem sort_any (q base g n cb : Nat) (A : Option Addr) (c : Nat) (ts : List TD) (w : World) (hk : Blk w q 22 #[.slice A n c]) (hr : Rd w 5 A n (tasksV ts)) (ha : ts.all TD.okB = true) (hn : n ≤ 16) (hn1 : 1 ≤ n)
    (hq : q < base) (hA : ∀ a, A = some a → a.block < base) (hg : base ≤ g) (ho : w.ownsRow base 3 1 (.slice (some ⟨g, 0, none⟩) n cb) n (ints (up (List.range n)))) :
    Calls Try.prog 28 #[.slice (some ⟨g, 0, none⟩) n cb, .func (.func 29) #[] #[.pointer (some ⟨q, 0, none⟩)]] w fun e w' => e = .returned (.tuple #[]) ∧ w.grownBy w' (some g) ∧
      w'.ownsRow base 3 1 (.slice (some ⟨g, 0, none⟩) n cb) n (ints (up (ordTo ts n))) := by
  have HC := Lib.hid (stable_any q base g n cb A c ts w hk hr ha hn hn1 hq hA hg ho)
  clear hk hr ho ha hA
  go_enter Try.func28, Try.ntmps28
  go_wp2_with fail
  refine HC.out.mono ?_
  rintro e w1 ⟨rfl, h1, h2⟩
  have H1 := Lib.hid h1
  have H2 := Lib.hid h2
  clear h1 h2 HC
  go_wp2
  go_end0
  exact ⟨rfl, H1.out, H2.out⟩
end Go.Proofs.Ythnpeekeoaiaoaa.Task
