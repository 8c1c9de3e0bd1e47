/-
  The law's own helpers: lists of paths the same twice, written over by their owner; two answers of carrying over the same. Conditions: the lists read; what is written over is the owner's own.
-/
import Derived.Test.YtnalabohhocjaaaChg9
import Derived.Test.YtnalabohhocjaaaCpM
import Derived.Test.YtnalabohhocjaaaCod3
import Derived.BigQuiet
namespace Go.Proofs.Ytnalabohhocjaaa.Chg
open Go.RowKit Go.Proofs.Ytnalabohhocjaaa.W Go.Proofs.Ytnalabohhocjaaa.Ints Go.Proofs.Ytnalabohhocjaaa.Cod

theorem str_at {w : World} {A : Option Addr} {n : Nat} {l : List ByteArray} (h : Rd w 1 A n (strs l)) {k : Nat} (hk : k < n) :
    ∃ b o s, A = some ⟨b, o, none⟩ ∧ l[k]? = some s ∧ w.cell? ⟨b, o + k, none⟩ = some (.string s) := by
  have hl : l.length = n := by simpa [strs] using h.1
  obtain ⟨b, o, e, hc⟩ := h.2 (by omega)
  have ht : l[k]? = some l[k] := List.getElem?_eq_getElem (by omega)
  exact ⟨b, o, l[k], e, ht, hc k _ (by simp [strs, ht])⟩
set_option maxRecDepth 100000 in
set_option maxHeartbeats 3200000 in
theorem samePaths_same (A : Option Addr) (n c : Nat) (B : Option Addr) (d : Nat) (l : List ByteArray) (w : World) (ha : Rd w 1 A n (strs l)) (hb : Rd w 1 B n (strs l)) (hn : n ≤ maxLen) :
    Calls Try.prog 22 #[.slice A n c, .slice B n d] w fun e w' => e = .returned (.bool true) ∧ ∃ q, w' = w.drewN q := by
  unfold maxLen at hn
  have HA := Lib.hid ha
  have HB := Lib.hid hb
  clear ha hb
  go_enter Try.func22, Try.ntmps22
  go_wp2
  go_loopw [5] (fun i wr => ∃ k : Nat, k ≤ n ∧ i = .int .i64 k ∧ ∃ q, wr = w.drewN q) (fun i _ => n - (intOf i).toNat)
  case atStart => exact ⟨0, Nat.zero_le _, rfl, 0, rfl⟩
  case round =>
    obtain ⟨k, hk, rfl, q, rfl⟩ := hrel
    by_cases hlt : k < n
    · obtain ⟨b1, o1, p, rfl, hp1, x0⟩ := str_at HA.out hlt
      obtain ⟨b2, o2, p', rfl, hp2, y0⟩ := str_at HB.out hlt
      obtain rfl := Option.some.inj (hp1.symm.trans hp2)
      clear hp1 hp2
      have hk0 : (0 : Int) ≤ (k : Int) := by omega
      have hk1 : (k : Int) < (n : Int) := by omega
      go_wp2
      go_quiet (fail)
      go_wp2
      go_roundw
      case rel => exact ⟨k + 1, by omega, by go_num, _, rfl⟩
      case measure => simp [intOf]; omega
    · have hk1 : ¬ (k : Int) < (n : Int) := by omega
      go_wp2
      go_ret
      exact ⟨rfl, _, rfl⟩
set_option maxHeartbeats 800000 in
set_option maxRecDepth 100000 in
/-- the list is written over, and behind its end: nothing else turns but its own row. -/
theorem overPaths_any (base : Nat) (A : Option Addr) (n c : Nat) (xs : List Value) (w : World) (ho : w.ownsRow base 9 1 (.slice A n c) n xs) (hb : base ≤ w.heap.size) (hn : n * 16 ≤ 140737488351232) :
    Calls Try.prog 12 #[.slice A n c] w fun e w' => e = .returned (.tuple #[]) ∧ w.grownBy w' (Value.slice A n c).ownBlock := by
  obtain ⟨s0, hs0, hsz0, hsz1, hsz2⟩ := info_parts str_info
  have HO := Lib.hid ho
  clear ho
  go_enter Try.func12, Try.ntmps12
  go_wp2
  go_loopw [2] (fun i wr => ∃ k : Nat, k ≤ n ∧ i = .int .i64 k ∧ (∃ ys, wr.ownsRow base 9 1 (.slice A n c) n ys) ∧ Hid (w.grownBy wr (Value.slice A n c).ownBlock)) (fun i _ => n - (intOf i).toNat)
  case atStart => exact ⟨0, Nat.zero_le _, rfl, ⟨_, HO.out⟩, Grow.refl _ _⟩
  case round =>
    obtain ⟨k, hk, rfl, ⟨ys, hy⟩, hg⟩ := hrel
    by_cases hlt : k < n
    · obtain ⟨g, rfl, hbg, hgl⟩ := own_head hy (by omega)
      have hcell : ∃ u, wr.cell? ⟨g, k, none⟩ = some u := by
        rw [hy.cellAt k (by omega)]
        have := hy.1
        exact ⟨_, List.getElem?_eq_getElem (by omega)⟩
      obtain ⟨u, hu⟩ := hcell
      have hfz := hy.frozenAt k
      obtain ⟨h1, h2⟩ := hy.stored k (.string { data := #[111, 118, 101, 114] })
      have HY := Lib.hid hy
      have H1 := Lib.hid h1
      have H2 := Lib.hid h2
      clear hy h1 h2
      go_wp2
      go_roundw
      case rel => exact ⟨k + 1, by omega, by go_num, ⟨_, H1.out⟩, Grow.trans hg.out H2.out (fun _ _ => .inl rfl)⟩
      case measure => simp [intOf]; omega
    · have hk' : n ≤ k := by omega
      have hsz := hg.out.size
      have hrd : ∀ u, Rd (wr.alloc (.cells #[.string { data := #[111, 118, 101, 114] }, .string { data := #[111, 118, 101, 114] }] u)) 1 (some ⟨wr.heap.size, 0, none⟩) 2 [.string { data := #[111, 118, 101, 114] }, .string { data := #[111, 118, 101, 114] }] := by
        intro u
        refine ⟨rfl, fun _ => ⟨_, _, rfl, fun j x hx => ?_⟩⟩
        rw [(Blk.new wr u _).cell]
        simpa using hx
      go_wp2_with (at_builtin; refine wpList_append_rd _ rfl (.tmp 12) (.tmp 13) 28 rfl base 9 s0 _ 1 16 Try.underlying28 hs0 hsz0 hsz1 hsz2 rfl (by omega) _ n ys rfl (hy.alloc _) _ 2 2 [.string { data := #[111, 118, 101, 114] }, .string { data := #[111, 118, 101, 114] }] rfl (hrd _) ?_ ?_ ?_ ?_ ?_)
      · simp [Value.oneCell']
      · unfold maxLen; omega
      · omega
      · simp; omega
      · intro v' w1 ho1 hg1 hat1
        have HG1 := Lib.hid hg1
        clear ho1 hg1 hat1 hy
        go_wp2
        go_end0
        exact ⟨rfl, Grow.trans (Grow.trans hg.out (World.grownBy_alloc _ _ none) (fun x hx => by cases hx)) HG1.out (fun _ _ => .inl rfl)⟩
set_option maxRecDepth 100000 in
set_option maxHeartbeats 3200000 in
theorem sameCarried_same (A1 A2 A3 : Option Addr) (n1 n2 n3 c1 c2 c3 : Nat) (B1 B2 B3 : Option Addr) (d1 d2 d3 : Nat) (l1 : List Int) (l2 l3 : List ByteArray) (w : World) (h1 : Rd w 1 A1 n1 (ints l1)) (h2 : Rd w 1 A2 n2 (strs l2)) (h3 : Rd w 1 A3 n3 (strs l3)) (k1 : Rd w 1 B1 n1 (ints l1)) (k2 : Rd w 1 B2 n2 (strs l2)) (k3 : Rd w 1 B3 n3 (strs l3)) (m1 : n1 ≤ maxLen) (m2 : n2 ≤ maxLen) (m3 : n3 ≤ maxLen) :
    Calls Try.prog 7 #[.agg #[.slice A1 n1 c1, .slice A2 n2 c2, .slice A3 n3 c3], .agg #[.slice B1 n1 d1, .slice B2 n2 d2, .slice B3 n3 d3]] w fun e w' => e = .returned (.bool true) ∧ Below w.heap.size w w' := by
  have H1 := Lib.hid (And.intro h1 k1)
  have H2 := Lib.hid (And.intro h2 k2)
  have H3 := Lib.hid (And.intro h3 k3)
  clear h1 h2 h3 k1 k2 k3
  have HB : Hid (∀ o o' q, Below w.heap.size w (((w.alloc o).alloc o').drewN q)) := fun o o' q => below_drewN ((below_alloc o).trans ((below_alloc o').mono (by simp))) q
  go_enter Try.func7, Try.ntmps7
  go_wp2_with fail
  refine (same_true A1 B1 n1 c1 d1 l1 _ (H1.out.1.below (HB.out _ _ 0)) (H1.out.2.below (HB.out _ _ 0)) m1).mono ?_
  rintro e w1 ⟨rfl, q, rfl⟩
  dsimp only
  go_wp2_with fail
  refine (samePaths_same A2 n2 c2 B2 d2 l2 _ (H2.out.1.below (HB.out _ _ _)) (H2.out.2.below (HB.out _ _ _)) m2).mono ?_
  rintro e w1 ⟨rfl, q2, rfl⟩
  dsimp only
  rw [World.drewN_drewN]
  go_wp2_with fail
  refine (samePaths_same A3 n3 c3 B3 d3 l3 _ (H3.out.1.below (HB.out _ _ _)) (H3.out.2.below (HB.out _ _ _)) m3).mono ?_
  rintro e w1 ⟨rfl, q3, rfl⟩
  dsimp only
  rw [World.drewN_drewN]
  go_wp2
  go_ret
  exact ⟨rfl, HB.out _ _ _⟩
end Go.Proofs.Ytnalabohhocjaaa.Chg
