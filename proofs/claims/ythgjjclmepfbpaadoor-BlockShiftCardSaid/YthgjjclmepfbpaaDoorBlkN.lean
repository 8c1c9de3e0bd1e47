/-
  Step and the reference's BlockStep at any name. Conditions: both lists read; the ints are ints; the variable that holds the length of the library's longest quick search reads.
-/
import Derived.Test.YthgjjclmepfbpaaDoorBlkQ
namespace Go.Proofs.YthgjjclmepfbpaaDoor.Blk
open Go.RowKit Go.Proofs.YthgjjclmepfbpaaDoor.W Go.Proofs.YthgjjclmepfbpaaDoor.Ints Go.Proofs.YthgjjclmepfbpaaDoor.Cell Go.Proofs.YthgjjclmepfbpaaDoor.Num

set_option maxRecDepth 100000 in
set_option maxHeartbeats 3200000 in
theorem step_none {s : ByteArray} (h : ∀ b ∈ bts, ¬ s = b.nm) (A : Option Addr) (n c : Nat) (A' : Option Addr) (n' c' : Nat) (now : Int) (w : World) :
    Calls Tryd.prog 15 #[.string s, .slice A n c, .slice A' n' c', .int .i64 now] w fun e w' => e = .returned (.tuple #[.slice none 0 0, .slice none 0 0]) ∧ Below w.heap.size w w' := by
  have HN := Lib.hid (fun w => made_none h w)
  clear h
  go_enter Tryd.func15, Tryd.ntmps15
  go_wp2_with fail
  refine (HN.out _).mono ?_
  rintro e w1 ⟨rfl, rfl⟩
  dsimp only
  go_wp2
  go_ret2
  exact ⟨rfl, ((Mem.start w).alloc 53 #[.string ByteArray.empty, .string ByteArray.empty, .string ByteArray.empty]).alloc 53 #[.string ByteArray.empty, .string ByteArray.empty, .string ByteArray.empty] |>.bel⟩
set_option maxRecDepth 100000 in
set_option maxHeartbeats 3200000 in
theorem bstep_none {s : ByteArray} (h : ∀ b ∈ bts, ¬ s = b.nm) (A : Option Addr) (n c : Nat) (A' : Option Addr) (n' c' : Nat) (now : Int) (w : World) :
    Calls Tryd.prog 13 #[.string s, .slice A n c, .slice A' n' c', .int .i64 now] w fun e w' => e = .returned (.tuple #[.slice none 0 0, .slice none 0 0]) ∧ Below w.heap.size w w' := by
  have HN := Lib.hid (fun w => ref_none h w)
  clear h
  go_enter Tryd.func13, Tryd.ntmps13
  go_wp2_with fail
  refine (HN.out _).mono ?_
  rintro e w1 ⟨rfl, hb⟩
  dsimp only
  have HB := Lib.hid hb
  clear hb
  go_wp2
  go_ret2
  exact ⟨rfl, HB.out.trans ((below_alloc _).mono HB.out.size)⟩

/-- what a step at a name does, on one side -/
def StepsC (f : FuncId) (s : ByteArray) (F : List Int → List Int → Int → List Int × List Int) (N3 NO : Nat) : Prop := ∀ (m : Int) (A : Option Addr) (n c : Nat) (l : List Int) (A' : Option Addr) (n' c' : Nat) (l' : List Int) (now : Int) (w : World), w.cell? ⟨0, 0, none⟩ = some (.int .i64 m) → Rd w 1 A n (ints l) → Rd w 1 A' n' (ints l') → (∀ x ∈ l, I64 x) → (∀ x ∈ l', I64 x) → I64 now →
    Calls Tryd.prog f #[.string s, .slice A n c, .slice A' n' c', .int .i64 now] w fun e w' => ∃ A2 c2 A3 c3, e = .returned (.tuple #[.slice A2 N3 c2, .slice A3 NO c3]) ∧ Mem w w' [] [⟨3, 1, A2, N3, c2, ints (F l l' now).1⟩, ⟨3, 1, A3, NO, c3, ints (F l l' now).2⟩]
theorem steps_all (s : ByteArray) : ∃ (F : List Int → List Int → Int → List Int × List Int) (N3 NO : Nat), StepsC 15 s F N3 NO ∧ StepsC 13 s F N3 NO ∧ (N3 ≤ 4 ∧ NO ≤ 3) ∧ (∀ l l' now, (F l l' now).1.length = N3 ∧ (F l l' now).2.length = NO ∧ ∀ x ∈ (F l l' now).1, I64 x) := by
  by_cases h : ∃ b ∈ bts, s = b.nm
  · obtain ⟨b, hb, rfl⟩ := h
    obtain ⟨B, N3, NO, h1, h2, h3, _, _, _, h4, h5⟩ := does_all hb
    refine ⟨stepF b B, N3, NO, ?_, ?_, ⟨h4, h5⟩, h3⟩
    · intro m A n c l A' n' c' l' now w hm hr hr' hb hb' hn
      refine (h1 m A n c l A' n' c' l' now w hm hr hr' hb hb' hn).mono ?_
      rintro e w' ⟨g2, g3, rfl, M⟩
      exact ⟨_, _, _, _, rfl, M⟩
    · intro m A n c l A' n' c' l' now w _ hr hr' _ _ _
      refine (h2 A n c l A' n' c' l' now w hr hr').mono ?_
      rintro e w' ⟨g2, g3, rfl, M⟩
      exact ⟨_, _, _, _, rfl, M⟩
  · have h' : ∀ b ∈ bts, ¬ s = b.nm := fun b hb e => h ⟨b, hb, e⟩
    refine ⟨fun _ _ _ => ([], []), 0, 0, ?_, ?_, by omega, fun _ _ _ => ⟨rfl, rfl, fun x hx => by cases hx⟩⟩
    · intro m A n c l A' n' c' l' now w _ _ _ _ _ _
      refine (step_none h' A n c A' n' c' now w).mono ?_
      rintro e w' ⟨rfl, hb⟩
      exact ⟨none, 0, none, 0, rfl, (((Mem.start w).below hb).nilO _ _).nilO _ _⟩
    · intro m A n c l A' n' c' l' now w _ _ _ _ _ _
      refine (bstep_none h' A n c A' n' c' now w).mono ?_
      rintro e w' ⟨rfl, hb⟩
      exact ⟨none, 0, none, 0, rfl, (((Mem.start w).below hb).nilO _ _).nilO _ _⟩

/-- a call of a step: its inputs, the time -/
structure CL where
  A : Option Addr
  n : Nat
  c : Nat
  now : Int
def CL.cs (x : CL) : List Value := [.slice x.A x.n x.c, .int .i64 x.now]
theorem CL.len (x : CL) : x.cs.length = 2 := rfl
def CL.ok (w : World) (x : CL) : Prop := I64 x.now ∧ x.n * 8 ≤ 140737488351232 ∧ ∃ ys, Rd w 1 x.A x.n (ints ys) ∧ ∀ y ∈ ys, I64 y
theorem rd_pre {w : World} {A : Option Addr} {n k : Nat} {xs ys : List Int} (h : Rd w 1 A (n + k) (ints (xs ++ ys))) (hx : xs.length = n) : Rd w 1 A n (ints xs) := by
  refine ⟨by simp [ints, hx], fun hn => ?_⟩
  obtain ⟨b, o, e, hc⟩ := h.2 (by omega)
  refine ⟨b, o, e, fun j u hu => hc j u ?_⟩
  simp only [ints, List.map_append]
  rw [List.getElem?_append_left (by have := (List.getElem?_eq_some_iff.1 hu).1; exact this)]
  exact hu
/-- a roomy list as a row -/
theorem row_of {w w' : World} {g m : Nat} {L : List Int} (hb : w.heap.size ≤ g) (h : Blk w' g 3 (ints L).toArray) (hL : L.length = m) (hm : m ≤ maxLen) : w'.ownsRow w.heap.size 3 1 (.slice (some ⟨g, 0, none⟩) m m) m (ints L) :=
  ⟨by simp [ints, hL], .inr ⟨g, m, _, rfl, hb, h, Nat.le_refl _, hm, by simp [ints, hL], by rw [show m * 1 = (ints L).length from by simp [ints, hL]]; exact List.take_length⟩⟩
theorem same_true (A B : Option Addr) (n c d : Nat) (xs : List Int) (w : World) (hA : Rd w 1 A n (ints xs)) (hB : Rd w 1 B n (ints xs)) (hm : n ≤ maxLen) :
    Calls Tryd.prog 16 #[.slice A n c, .slice B n d] w fun e w' => e = .returned (.bool true) ∧ ∃ q, w' = w.drewN q := by
  refine (sameInts_any A B n n c d xs xs w hA hB hm).mono ?_
  rintro e w' ⟨rfl, q, rfl⟩
  exact ⟨by simp, q, rfl⟩
end Go.Proofs.YthgjjclmepfbpaaDoor.Blk
