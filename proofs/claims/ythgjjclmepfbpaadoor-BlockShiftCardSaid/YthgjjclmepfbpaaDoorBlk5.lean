/-
  Pins: the same twice; written over by their owner. Conditions: the lists read; what is written over is the owner's own.
-/
import Derived.Test.YthgjjclmepfbpaaDoorBlk4
import Derived.Test.YthgjjclmepfbpaaDoorRecs
import Derived.BigQuiet
namespace Go.Proofs.YthgjjclmepfbpaaDoor.Blk
open Go.RowKit Go.Proofs.YthgjjclmepfbpaaDoor.W Go.Proofs.YthgjjclmepfbpaaDoor.Ints

theorem pin_at {w : World} {A : Option Addr} {n : Nat} {l : List PN} (h : Rd w 2 A n (pinV l)) {k : Nat} (hk : k < n) :
    ∃ b o p, A = some ⟨b, o, none⟩ ∧ l[k]? = some p ∧ b < w.heap.size ∧ w.cell? ⟨b, o + k * 2, none⟩ = some (.string p.name) ∧ w.cell? ⟨b, o + k * 2 + 1, none⟩ = some (.int .i64 p.kind) := by
  have hl := Rd.rec_len PN.len (by omega) h
  obtain ⟨b, o, e, hc⟩ := Rd.rec PN.len h (by omega)
  have ht : l[k]? = some l[k] := List.getElem?_eq_getElem (by omega)
  have c := hc k _ ht
  have c0 := c 0 _ rfl
  refine ⟨b, o, l[k], e, ht, lt_of_cell c0, c0, ?_⟩
  rw [Nat.add_assoc]
  exact c 1 _ rfl
set_option maxRecDepth 100000 in
set_option maxHeartbeats 3200000 in
theorem samePins_same (A : Option Addr) (n c : Nat) (B : Option Addr) (d : Nat) (l : List PN) (w : World) (ha : Rd w 2 A n (pinV l)) (hb : Rd w 2 B n (pinV l)) (hn : n ≤ 1000) :
    Calls Tryd.prog 12 #[.slice A n c, .slice B n d] w fun e w' => e = .returned (.bool true) ∧ ∃ q, w' = w.drewN q := by
  have HA := Lib.hid ha
  have HB := Lib.hid hb
  clear ha hb
  go_enter Tryd.func12, Tryd.ntmps12
  go_wp2
  go_loopw [5] (fun i wr => ∃ k : Nat, k ≤ n ∧ i = .int .i64 k ∧ ∃ q, wr = w.drewN q) (fun i _ => n - (intOf i).toNat)
  case atStart => exact ⟨0, Nat.zero_le _, rfl, 0, rfl⟩
  case round =>
    obtain ⟨k, hk, rfl, q, rfl⟩ := hrel
    by_cases hlt : k < n
    · obtain ⟨b1, o1, p, rfl, hp1, _, x0, x1⟩ := pin_at HA.out hlt
      obtain ⟨b2, o2, p', rfl, hp2, _, y0, y1⟩ := pin_at HB.out hlt
      obtain rfl := Option.some.inj (hp1.symm.trans hp2)
      clear hp1 hp2
      have hk0 : (0 : Int) ≤ (k : Int) := by omega
      have hk1 : (k : Int) < (n : Int) := by omega
      go_wp2
      go_quiet (fail)
      go_wp2
      go_roundw
      case rel => exact ⟨k + 1, by omega, by go_num, _, rfl⟩
      case measure => simp [intOf]; omega
    · have hk1 : ¬ (k : Int) < (n : Int) := by omega
      go_wp2
      go_ret
      exact ⟨rfl, _, rfl⟩
set_option maxRecDepth 100000 in
set_option maxHeartbeats 3200000 in
theorem sameShape_same (A1 A2 A3 : Option Addr) (n1 n2 n3 c1 c2 c3 : Nat) (B1 B2 B3 : Option Addr) (d1 d2 d3 : Nat) (l1 l2 l3 : List PN) (w : World) (h1 : Rd w 2 A1 n1 (pinV l1)) (h2 : Rd w 2 A2 n2 (pinV l2)) (h3 : Rd w 2 A3 n3 (pinV l3)) (k1 : Rd w 2 B1 n1 (pinV l1)) (k2 : Rd w 2 B2 n2 (pinV l2)) (k3 : Rd w 2 B3 n3 (pinV l3)) (m1 : n1 ≤ 1000) (m2 : n2 ≤ 1000) (m3 : n3 ≤ 1000) :
    Calls Tryd.prog 10 #[.agg #[.slice A1 n1 c1, .slice A2 n2 c2, .slice A3 n3 c3], .agg #[.slice B1 n1 d1, .slice B2 n2 d2, .slice B3 n3 d3]] w fun e w' => e = .returned (.bool true) ∧ Below w.heap.size w w' := by
  have H1 := Lib.hid (And.intro h1 k1)
  have H2 := Lib.hid (And.intro h2 k2)
  have H3 := Lib.hid (And.intro h3 k3)
  clear h1 h2 h3 k1 k2 k3
  have HB : Hid (∀ o o' q, Below w.heap.size w (((w.alloc o).alloc o').drewN q)) := fun o o' q => below_drewN ((below_alloc o).trans ((below_alloc o').mono (by simp))) q
  go_enter Tryd.func10, Tryd.ntmps10
  go_wp2_with fail
  refine (samePins_same A1 n1 c1 B1 d1 l1 _ (H1.out.1.below (HB.out _ _ 0)) (H1.out.2.below (HB.out _ _ 0)) m1).mono ?_
  rintro e w1 ⟨rfl, q, rfl⟩
  dsimp only
  go_wp2_with fail
  refine (samePins_same A2 n2 c2 B2 d2 l2 _ (H2.out.1.below (HB.out _ _ _)) (H2.out.2.below (HB.out _ _ _)) m2).mono ?_
  rintro e w1 ⟨rfl, q2, rfl⟩
  dsimp only
  rw [World.drewN_drewN]
  go_wp2_with fail
  refine (samePins_same A3 n3 c3 B3 d3 l3 _ (H3.out.1.below (HB.out _ _ _)) (H3.out.2.below (HB.out _ _ _)) m3).mono ?_
  rintro e w1 ⟨rfl, q3, rfl⟩
  dsimp only
  rw [World.drewN_drewN]
  go_wp2
  go_ret
  exact ⟨rfl, HB.out _ _ _⟩
set_option maxHeartbeats 3200000 in
set_option maxRecDepth 100000 in
theorem overPins_any (base : Nat) (A : Option Addr) (n c : Nat) (xs : List Value) (w : World) (ho : w.ownsRow base 49 2 (.slice A n c) n xs) (hb : base ≤ w.heap.size) (hn : n ≤ 1000) :
    Calls Tryd.prog 11 #[.slice A n c] w fun e w' => e = .returned (.tuple #[]) ∧ w.grownBy w' (Value.slice A n c).ownBlock := by
  obtain ⟨i0, hi0, hz0, hz1, hz2⟩ := info_parts pin_info
  have HO := Lib.hid ho
  clear ho
  go_enter Tryd.func11, Tryd.ntmps11
  go_wp2
  go_loopw [2] (fun i wr => ∃ k : Nat, k ≤ n ∧ i = .int .i64 k ∧ (∃ ys, wr.ownsRow base 49 2 (.slice A n c) n ys) ∧ Hid (w.grownBy wr (Value.slice A n c).ownBlock)) (fun i _ => n - (intOf i).toNat)
  case atStart => exact ⟨0, Nat.zero_le _, rfl, ⟨_, HO.out⟩, Grow.refl _ _⟩
  case round =>
    obtain ⟨k, hk, rfl, ⟨ys, hy⟩, hg⟩ := hrel
    by_cases hlt : k < n
    · obtain ⟨g, rfl, hbg, hgl⟩ := own_head hy (by omega)
      have hcell : ∀ i, i < 2 → ∃ u, wr.cell? ⟨g, k * 2 + i, none⟩ = some u := by
        intro i hi
        have := hy.1
        rw [hy.cellAt (k * 2 + i) (by omega)]
        exact ⟨_, List.getElem?_eq_getElem (by omega)⟩
      obtain ⟨u, hu⟩ := hcell 0 (by omega)
      obtain ⟨u', hu'⟩ := hcell 1 (by omega)
      rw [Nat.add_zero] at hu
      have hfz := hy.frozenAt (k * 2)
      have hfz' := hy.frozenAt (k * 2 + 1)
      obtain ⟨h1, h2⟩ := hy.stored (k * 2) (.string ⟨#[111, 118, 101, 114]⟩)
      obtain ⟨h3, h4⟩ := h1.stored (k * 2 + 1) (.int .i64 0)
      have H1 := Lib.hid h3
      have H2 := Lib.hid (h2.trans h4)
      clear hy h1 h2 h3 h4 hcell
      go_wp2
      go_roundw
      case rel => exact ⟨k + 1, by omega, by go_num, ⟨_, H1.out⟩, Grow.trans hg.out H2.out (fun _ _ => .inl rfl)⟩
      case measure => simp [intOf]; omega
    · have hk' : n ≤ k := by omega
      have hsz := hg.out.size
      have hrow : ∀ x, (Value.slice A n c).ownBlock = some x → some x = (Value.slice A n c).ownBlock ∨ w.heap.size ≤ x := fun x hx => .inl hx.symm
      have HR := Lib.hid hrow
      clear hrow
      go_wp2
      obtain ⟨wo, hwo⟩ : ∃ wo : World, wo = wr := ⟨_, rfl⟩
      subst hwo
      go_loopw [0, 3] (fun v i wr2 => ∃ j : Nat, j ≤ 20 ∧ i = .int .i64 j ∧ (∃ ys, wr2.ownsRow base 49 2 v (n + j) ys) ∧ Hid (w.grownBy wr2 (Value.slice A n c).ownBlock) ∧
        Hid (∀ x, v.ownBlock = some x → some x = (Value.slice A n c).ownBlock ∨ w.heap.size ≤ x)) (fun _ i _ => 20 - (intOf i).toNat)
      case atStart => exact ⟨0, by omega, rfl, ⟨_, hy⟩, hg, HR⟩
      case round =>
        clear hy HR hsz
        obtain ⟨j, hj, rfl, ⟨zs, hz⟩, hg2, hv2⟩ := hrel
        have hsz2 := hg2.out.size
        by_cases hlt2 : j < 20
        · go_wp2_with (at_builtin; refine wpList_append_rd _ rfl (.tmp 18) (.tmp 20) 22 rfl base 49 i0 _ 2 24 Tryd.underlying22 hi0 hz0 hz1 hz2 rfl (by omega) _ (n + j) zs rfl (hz.alloc _) _ 1 1 [.string ⟨#[111, 118, 101, 114]⟩, .int .i64 0] rfl (rd_newR _ _ _) ?_ ?_ ?_ ?_ ?_)
          · intro u hu
            simp at hu
            rcases hu with rfl | rfl <;> rfl
          · unfold maxLen; omega
          · omega
          · simp; omega
          · intro v' w1 ho1 hg1 hat1
            have HO1 := Lib.hid ho1
            have HG1 := Lib.hid hg1
            have HA1 := Lib.hid hat1
            clear ho1 hg1 hat1 hz
            go_wp2
            go_roundw
            case rel =>
              refine ⟨j + 1, by omega, by go_num, ⟨_, HO1.out⟩, ?_, ?_⟩
              · exact Grow.trans (Grow.trans hg2.out (World.grownBy_alloc _ _ none) (fun x hx => by cases hx)) HG1.out (fun x hx => (hv2.out x hx).imp (fun h => hx.trans h) id)
              · intro x hx
                rcases HA1.out with h | h
                · exact hv2.out x (by rw [← h]; exact hx)
                · rw [h] at hx
                  injection hx with hx
                  right
                  have : wr.heap.size ≤ x := by rw [← hx]; simp
                  omega
            case measure => simp [intOf]; omega
        · go_wp2
          go_end0
          exact ⟨rfl, hg2.out⟩
end Go.Proofs.YthgjjclmepfbpaaDoor.Blk
