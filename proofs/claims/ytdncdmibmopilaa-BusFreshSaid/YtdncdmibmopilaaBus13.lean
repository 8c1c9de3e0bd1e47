/-
  The walk of the law BusTick. Conditions: the argument reads, within the form's own reach.
-/
import Derived.Test.YtdncdmibmopilaaBus5Tick
import Derived.Test.YtdncdmibmopilaaBus6
import Derived.Test.YtdncdmibmopilaaBus12
namespace Go.Proofs.Ytdncdmibmopilaa.Bus
open Go.RowKit Go.Proofs.Ytdncdmibmopilaa.W Go.Proofs.Ytdncdmibmopilaa.Ints

/-- a link that came in -/
theorem link_in {H : Type} {enc : TypeId × Value → H} {w : World} {cs : Array Value} (h : O.Op enc Try.prog w 24 cs.toList) :
    ∃ (st wt : Int) (A : Option Addr) (n c : Nat) (B : Option Addr) (m d : Nat) (seq age : Int) (fresh : Bool) (xs ys : List Int), Value.agg cs = linkV st wt (.slice A n c) (.slice B m d) seq age fresh ∧
      Rd w 1 A n (ints xs) ∧ n * 8 ≤ 140737488351232 ∧ Rd w 1 B m (ints ys) ∧ m * 8 ≤ 140737488351232 ∧ wt ≤ 9223372036854775807 ∧ -9223372036854775808 ≤ wt := by
  obtain ⟨hl, hf⟩ := h.struct Try.underlying24
  obtain ⟨l⟩ := cs
  simp only at hl hf
  match l, hl.trans (by kernel_rfl : Try.prog.cellsOf 24 = 7) with
  | [c0, c1, c2, c3, c4, c5, c6], _ =>
    obtain ⟨st, e0, _⟩ := (hf 0 _ rfl).i64 Try.underlying3
    obtain ⟨wt, e1, hw1, hw2⟩ := (hf 1 _ rfl).i64 Try.underlying3
    obtain ⟨A, n, c, xs, e2, hnc, hc, hr, _, _⟩ := (hf 2 _ rfl).ints Try.underlying22 Try.underlying3 (by kernel_rfl) (by kernel_rfl)
    obtain ⟨B, m, d, ys, e3, hmd, hd, hr', _, _⟩ := (hf 3 _ rfl).ints Try.underlying22 Try.underlying3 (by kernel_rfl) (by kernel_rfl)
    obtain ⟨seq, e4, _⟩ := (hf 4 _ rfl).i64 Try.underlying3
    obtain ⟨age, e5, _⟩ := (hf 5 _ rfl).i64 Try.underlying3
    obtain ⟨fresh, e6⟩ := (hf 6 _ rfl).bool Try.underlying4
    have k3 : Try.prog.cellsOf 3 = 1 := by kernel_rfl
    have k4 : Try.prog.cellsOf 4 = 1 := by kernel_rfl
    have k23 : Try.prog.cellsOf 22 = 1 := by kernel_rfl
    simp [k3, k4, k23] at e0 e1 e2 e3 e4 e5 e6
    subst e0 e1 e2 e3 e4 e5 e6
    exact ⟨st, wt, A, n, c, B, m, d, seq, age, fresh, xs, ys, rfl, hr, by omega, hr', by omega, hw2, hw1⟩

theorem tick_len {st wt : Int} {xs ys : List Int} {seq age : Int} {fresh : Bool} (h : xs.length * 8 ≤ 140737488351232) (h' : ys.length * 8 ≤ 140737488351232) :
    (tickF st wt xs ys seq age fresh).1.safe.length * 8 ≤ 140737488351232 ∧ (tickF st wt xs ys seq age fresh).1.words.length * 8 ≤ 140737488351232 := by
  unfold tickF
  repeat' split
  all_goals simp [zeroL, h, h']

set_option maxHeartbeats 1600000 in
theorem walk_Tick (H : Type) (enc : TypeId × Value → H) (w : World) (cs : Array Value) (ho : O.Op enc Try.prog w 24 cs.toList) :
    Calls Try.prog 6 #[.agg cs] w fun e w' => e = .returned (.bool true) ∧ Below w.heap.size w w' := by
  obtain ⟨st, wt, A, n, c, B, m, d, seq, age, fresh, xs, ys, hcs, hx, hn, hy, hm, hw, hw'⟩ := link_in ho
  rw [hcs]
  clear ho hcs
  have hlx := rd_len hx
  have hly := rd_len hy
  obtain ⟨hf1, hf2⟩ := tick_len (st := st) (wt := wt) (xs := xs) (ys := ys) (seq := seq) (age := age) (fresh := fresh) (by omega) (by omega)
  generalize hF : tickF st wt xs ys seq age fresh = F at *
  have HF := Lib.hid hF
  have HX := Lib.hid hx
  have HY := Lib.hid hy
  clear hF hx hy hlx hly
  go_enter Try.func6, Try.ntmps6
  go_wp2_with fail
  refine (Ticked_any st wt A n c B m d seq age fresh xs ys _ (HX.out.alloc _) hn (HY.out.alloc _) hm).mono ?_
  intro e w1 hf
  rw [HF.out] at hf
  obtain ⟨A1, d1, A2, d2, rfl, hrows, k1, z1⟩ := FreshL.call1 hf
  have HO := Lib.hid hrows
  have B1 := Lib.hid hrows.bel
  have c1 := k1.cell
  have f1 := k1.frozen
  clear hf k1 hrows
  go_wp2_with fail
  refine (linkAs_Tick st wt A n c B m d seq age fresh xs ys F A1 A2 d1 d2 _ ((HX.out.below B1.out).alloc _) hn ((HY.out.below B1.out).alloc _) hm (HO.out.safe.alloc _) (HO.out.words.alloc _) hf1 hf2 ?_).mono ?_
  · intro W A' B' c' d' hb' hr' hy'
    have h := Tick_any st wt A' n c' B' m d' seq age fresh xs ys W hr' hn hy' hm hw hw'
    rw [HF.out] at h
    exact h
  · rintro e w2 ⟨rfl, hb⟩
    have B2 := Lib.hid ((B1.out.alloc (by omega) _).trans (hb.mono (by simp <;> omega)))
    clear hb
    go_wp2
    go_ret
    exact ⟨rfl, B2.out⟩
end Go.Proofs.Ytdncdmibmopilaa.Bus
