/-
  The statements' linkOf: a link with rows of its own that reads the same. Conditions: the words read, within the reach.
-/
import Derived.Test.YtdncdmibmopilaaBus3
namespace Go.Proofs.Ytdncdmibmopilaa.Bus
open Go.RowKit Go.Proofs.Ytdncdmibmopilaa.W Go.Proofs.Ytdncdmibmopilaa.Ints

set_option maxHeartbeats 1600000 in
theorem linkOf_any (st wt : Int) (A : Option Addr) (n c : Nat) (B : Option Addr) (m d : Nat) (seq age : Int) (fresh : Bool) (xs ys : List Int) (w : World)
    (hx : Rd w 1 A n (ints xs)) (hn : n * 8 ≤ 140737488351232) (hy : Rd w 1 B m (ints ys)) (hm : m * 8 ≤ 140737488351232) :
    Calls Try.prog 35 #[linkV st wt (.slice A n c) (.slice B m d) seq age fresh] w fun e w' => ∃ A' c' B' d' mid, e = .returned (linkV st wt (.slice A' n c') (.slice B' m d') seq age fresh) ∧
      w.heap.size ≤ mid ∧ mid ≤ w'.heap.size ∧ Own.ok ⟨w.heap.size, mid, 3, 1, A', n, c', ints xs⟩ w' ∧ Own.ok ⟨mid, w'.heap.size, 3, 1, B', m, d', ints ys⟩ w' ∧ Below w.heap.size w w' := by
  obtain ⟨i0, hi0, hz0, hz1, hz2⟩ := info_parts int_info
  have HX := Lib.hid hx
  have HY := Lib.hid hy
  clear hx hy
  go_enter Try.func35, Try.ntmps35
  go_wp2_with (at_builtin; refine wpList_append_rd _ rfl (.const (.slice none 0 0)) (.tmp 4) 22 rfl (w.heap.size + 2) 3 i0 _ 1 8 Try.underlying22 hi0 hz0 hz1 hz2 rfl (by omega) _ 0 [] rfl (World.ownsRow_nil _ _ _ _) A n c (ints xs) rfl ((HX.out.alloc _).alloc _) (ones _ _) ?_ ?_ ?_ ?_)
  · unfold maxLen; omega
  · omega
  · simp
  intro v1 w1 ho1 hg1 hat1
  clear hat1
  obtain ⟨A1, d1, rfl, _⟩ := own_shape ho1
  try simp only [Nat.zero_add, List.nil_append] at ho1
  have hb := grow_none (show World.grownBy _ w1 none from hg1)
  obtain ⟨k1, k2, hb, z1, z2⟩ := call2 hb
  have c1 := k1.cell
  have f1 := k1.frozen
  have S1 := Lib.hid ((((St.nil w1).push (Own.mk' ho1 (Nat.le_refl _)))))
  have K1 := Lib.hid k1
  have K2 := Lib.hid k2
  have B1 := Lib.hid hb
  clear ho1 hg1 hb k1 k2
  go_wp2_with (at_builtin; refine wpList_append_rd _ rfl (.const (.slice none 0 0)) (.tmp 8) 22 rfl w1.heap.size 3 i0 _ 1 8 Try.underlying22 hi0 hz0 hz1 hz2 rfl (by omega) _ 0 [] rfl (World.ownsRow_nil _ _ _ _) B m d (ints ys) rfl (HY.out.below (B1.out.setCell (by simp) _)) (ones _ _) ?_ ?_ ?_ ?_)
  · unfold maxLen; omega
  · omega
  · simp
  intro v2 w2 ho2 hg2 hat2
  clear hat2
  obtain ⟨A2, d2, rfl, _⟩ := own_shape ho2
  try simp only [Nat.zero_add, List.nil_append] at ho2
  have hb := grow_none (show World.grownBy _ w2 none from hg2)
  have z3 : w1.heap.size ≤ w2.heap.size := by have := hb.size; simpa using this
  have k1 := (K1.out.put 2 (.slice A1 n d1)).below hb
  have k2 := (K2.out.far (p := ⟨w.heap.size, 2, none⟩) (by simp) (.slice A1 n d1)).below hb
  simp only [List.setIfInBounds_toArray, List.set_cons_succ, List.set_cons_zero] at k1
  have c3 := k1.cell
  have f3 := k1.frozen
  have c4 := k2.cell
  have f4 := k2.frozen
  have z4 : w.heap.size < w2.heap.size := by omega
  have z5 : w.heap.size + 1 < w2.heap.size := by omega
  have O1 := Lib.hid (ok_below (ok_set (p := ⟨w.heap.size, 2, none⟩) (u := .slice A1 n d1) (S1.out.own _ (List.Mem.head _)) (by simp)) hb)
  have O2 := Lib.hid (Own.mk' ho2 (Nat.le_refl w2.heap.size))
  have HB := Lib.hid ((B1.out.setCell (p := ⟨w.heap.size, 2, none⟩) (by simp) (.slice A1 n d1)).trans (hb.mono (by simp <;> omega)))
  clear ho2 hg2 hb k1 k2 c1 f1 S1 K1 K2 B1
  go_wp2
  refine bodyPost_ret (v := linkV st wt (.slice A1 n d1) (.slice A2 m d2) seq age fresh) ?_ rfl ?_
  · simp [results, Try.results35, go_sem, c4]
  · refine ⟨A1, d1, A2, d2, w1.heap.size, rfl, by omega, by simpa using z3, ?_, ?_, ?_⟩
    · refine ok_lo (lo := w.heap.size + 2) ?_ (by omega)
      repeat' (first | (with_reducible exact O1.out) | (with_reducible refine ok_set ?_ ?_; rotate_left; (simp <;> omega)))
    · refine ok_hi (hi := w2.heap.size) ?_ (by simp)
      repeat' (first | (with_reducible exact O2.out) | (with_reducible refine ok_set ?_ ?_; rotate_left; (simp <;> omega)))
    · repeat' (first | (with_reducible exact HB.out) | (with_reducible exact Below.refl _ _) | (with_reducible refine Below.setCell ?_ ?_ _; rotate_left; (simp <;> omega)) | (with_reducible refine Below.alloc ?_ ?_ _; rotate_left; (simp <;> omega)))
end Go.Proofs.Ytdncdmibmopilaa.Bus
