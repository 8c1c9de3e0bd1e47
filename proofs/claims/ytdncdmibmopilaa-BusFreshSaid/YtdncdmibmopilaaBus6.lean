/-
  The walk of the law BusStart. Conditions: the arguments read, within the form's own reach.
-/
import Derived.Test.YtdncdmibmopilaaBus5Start
import Derived.Test.YtdncdmibmopilaaO
namespace Go.Proofs.Ytdncdmibmopilaa.Bus
open Go.RowKit Go.Proofs.Ytdncdmibmopilaa.W Go.Proofs.Ytdncdmibmopilaa.Ints

theorem FreshL.call1 {w w' : World} {t1 : TypeId} {c1 : Array Value} {e : Ending} {F : LD × Int} (h : FreshL (w.alloc (.cells c1 t1)) w' e F) :
    ∃ A c B d, e = .returned (.tuple #[linkV F.1.st F.1.wt (.slice A F.1.safe.length c) (.slice B F.1.words.length d) F.1.seq F.1.age F.1.fresh, .int .i64 F.2]) ∧ RowsAt (w.heap.size + 1) w w' A B c d F.1 ∧
      Blk w' w.heap.size t1 c1 ∧ w.heap.size < w'.heap.size := by
  obtain ⟨A, c, B, d, he, l1, h1, l2, h2, m1, o1, o2, hb⟩ := h
  simp only [World.size_alloc] at m1
  obtain ⟨k1, hb, z1⟩ := W.call1 hb
  exact ⟨A, c, B, d, he, ⟨l1, h1, l2, h2, by omega, o1, o2, hb⟩, k1, z1⟩
theorem FreshL.call2 {w w' : World} {t1 t2 : TypeId} {c1 c2 : Array Value} {e : Ending} {F : LD × Int} (h : FreshL ((w.alloc (.cells c1 t1)).alloc (.cells c2 t2)) w' e F) :
    ∃ A c B d, e = .returned (.tuple #[linkV F.1.st F.1.wt (.slice A F.1.safe.length c) (.slice B F.1.words.length d) F.1.seq F.1.age F.1.fresh, .int .i64 F.2]) ∧ RowsAt (w.heap.size + 2) w w' A B c d F.1 ∧
      Blk w' w.heap.size t1 c1 ∧ Blk w' (w.heap.size + 1) t2 c2 ∧ w.heap.size < w'.heap.size ∧ w.heap.size + 1 < w'.heap.size := by
  obtain ⟨A, c, B, d, he, l1, h1, l2, h2, m1, o1, o2, hb⟩ := h
  simp only [World.size_alloc] at m1
  obtain ⟨k1, k2, hb, z1, z2⟩ := W.call2 hb
  exact ⟨A, c, B, d, he, ⟨l1, h1, l2, h2, by omega, o1, o2, hb⟩, k1, k2, z1, z2⟩
set_option maxHeartbeats 1600000 in
theorem clos_Start (q0 q1 : Nat) (p0 p1 : Int) (st wt : Int) (A : Option Addr) (n c : Nat) (B : Option Addr) (m d : Nat) (seq age : Int) (fresh : Bool) (zs : List Int) (w : World)
    (hq0 : Blk w q0 3 #[.int .i64 p0]) (hq1 : Blk w q1 3 #[.int .i64 p1]) (hr : Rd w 1 A n (ints zs)) (hn : n * 8 ≤ 140737488351232) (hp : p1 ≤ 9223372036854775807) :
    Calls Try.prog 11 #[linkV st wt (.slice A n c) (.slice B m d) seq age fresh, .pointer (some ⟨q0, 0, none⟩), .pointer (some ⟨q1, 0, none⟩)] w fun e w' => FreshL w w' e (linkedF p0 p1 zs) := by
  generalize hF : linkedF p0 p1 zs = F
  have HF := Lib.hid hF
  have HR := Lib.hid hr
  have l0 := hq0.lt
  have l1 := hq1.lt
  have g0 := hq0.cell 0
  have g1 := hq1.cell 0
  simp at g0 g1
  clear hF hr hq0 hq1
  go_enter Try.func11, Try.ntmps11
  go_wp2_with fail
  refine (Start_any p0 p1 A n c zs _ ((HR.out.alloc _).alloc _) hn hp).mono ?_
  intro e w' hf
  rw [HF.out] at hf
  obtain ⟨A1, d1, A2, d2, rfl, hrows, k1, k2, z1, z2⟩ := FreshL.call2 hf
  have c2 := k2.cell
  have f2 := k2.frozen
  have HO := Lib.hid hrows
  clear hf k1 k2 hrows
  go_wp2
  refine bodyPost_ret (v := .tuple #[linkV F.1.st F.1.wt (.slice A1 F.1.safe.length d1) (.slice A2 F.1.words.length d2) F.1.seq F.1.age F.1.fresh, .int .i64 F.2]) ?_ rfl ?_
  · simp [results, Try.results11, go_sem, c2]
  · refine ⟨A1, d1, A2, d2, rfl, RowsAt.weaken (base := w.heap.size + 2) ?_ (by omega)⟩
    repeat' (first | (with_reducible exact HO.out) | (with_reducible refine RowsAt.set ?_ ?_ ?_ _; rotate_left; (simp <;> omega); (simp <;> omega)))

theorem ints_in {H : Type} {enc : TypeId × Value → H} {w : World} {B : Option Addr} {m d : Nat} (h : O.Op enc Try.prog w 22 [.slice B m d]) : ∃ ys, Rd w 1 B m (ints ys) ∧ m * 8 ≤ 140737488351232 := by
  obtain ⟨A, n, c, zs, e, hnc, hc, hr, _, _⟩ := h.ints Try.underlying22 Try.underlying3 (by kernel_rfl) (by kernel_rfl)
  simp only [List.cons.injEq, Value.slice.injEq, and_true] at e
  obtain ⟨rfl, rfl, rfl⟩ := e
  exact ⟨zs, hr, by omega⟩
theorem linked_len (st wt : Int) (zs : List Int) (h : zs.length * 8 ≤ 140737488351232) : (linkedF st wt zs).1.safe.length * 8 ≤ 140737488351232 ∧ (linkedF st wt zs).1.words.length * 8 ≤ 140737488351232 := by
  unfold linkedF
  repeat' split
  all_goals simp [zeroL, h]

set_option maxHeartbeats 1600000 in
theorem walk_Start (H : Type) (enc : TypeId × Value → H) (w : World) (st : Int) (_h0 : (Lit.int .i64 st).wf = true) (wt : Int) (h1 : (Lit.int .i64 wt).wf = true) (A : Option Addr) (n c : Nat) (hb : O.Op enc Try.prog w 22 [.slice A n c]) :
    Calls Try.prog 3 #[.int .i64 st, .int .i64 wt, .slice A n c] w fun e w' => e = .returned (.bool true) ∧ Below w.heap.size w w' := by
  obtain ⟨zs, hr, hn⟩ := ints_in hb
  have hp : wt ≤ 9223372036854775807 := by
    have : -9223372036854775808 ≤ wt ∧ wt ≤ 9223372036854775807 := by simpa [Lit.wf, IntKind.min, IntKind.max, IntKind.signed, IntKind.bits] using h1
    exact this.2
  have hl := rd_len hr
  obtain ⟨hf1, hf2⟩ := linked_len st wt zs (by omega)
  generalize hF : linkedF st wt zs = F at *
  have HF := Lib.hid hF
  have HP := Lib.hid hp
  have HR := Lib.hid hr
  clear hF hp hr hb hl h1
  go_enter Try.func3, Try.ntmps3
  go_wp2_with fail
  refine (Linked_any st wt A n c zs _ ((HR.out.alloc _).alloc _) hn).mono ?_
  intro e w1 hf
  rw [HF.out] at hf
  obtain ⟨A1, d1, A2, d2, rfl, hrows, k1, k2, z1, z2⟩ := FreshL.call2 hf
  have K1 := Lib.hid k1
  have K2 := Lib.hid k2
  have HO := Lib.hid hrows
  have B1 := Lib.hid hrows.bel
  clear hf k1 k2 hrows
  go_wp2_with fail
  refine (linkAs_Start w.heap.size (w.heap.size + 1) 0 0 A n c none 0 0 0 0 false zs [] F A1 A2 d1 d2 _ ((HR.out.below B1.out).alloc _) hn (Rd.nil _ _ _) (by omega) (HO.out.safe.alloc _) (HO.out.words.alloc _) hf1 hf2 ?_).mono ?_
  · intro W A' B' c' d' hb' hr' hy'
    have h := clos_Start w.heap.size (w.heap.size + 1) st wt 0 0 A' n c' B' 0 d' 0 0 false zs W ((K1.out.alloc _).below hb') ((K2.out.alloc _).below hb') hr' hn HP.out
    rw [HF.out] at h
    exact h
  · rintro e w2 ⟨rfl, hb⟩
    have B2 := Lib.hid ((B1.out.alloc (by omega) _).trans (hb.mono (by simp <;> omega)))
    clear hb
    go_wp2
    go_ret
    exact ⟨rfl, B2.out⟩
end Go.Proofs.Ytdncdmibmopilaa.Bus
