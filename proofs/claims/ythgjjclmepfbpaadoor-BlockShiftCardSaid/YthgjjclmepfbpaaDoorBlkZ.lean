/-
  Step at the other nine blocks. Conditions: both lists read; the ints are ints.
-/
import Derived.Test.YthgjjclmepfbpaaDoorBlkZp
import Derived.Test.YthgjjclmepfbpaaDoorBlkC
import Derived.Test.YthgjjclmepfbpaaDoorBlkE
import Derived.Test.YthgjjclmepfbpaaDoorBlkF
import Derived.Test.YthgjjclmepfbpaaDoorBlkG
import Derived.Test.YthgjjclmepfbpaaDoorBlkH
namespace Go.Proofs.YthgjjclmepfbpaaDoor.Blk
open Go.RowKit Go.Proofs.YthgjjclmepfbpaaDoor.W Go.Proofs.YthgjjclmepfbpaaDoor.Ints Go.Proofs.YthgjjclmepfbpaaDoor.Cell Go.Proofs.YthgjjclmepfbpaaDoor.Num

theorem caSL (x : Array Value) (w : World) : Sem.run Tryd.prog (callFunc 78 x) w = .ok (.enter 78 x) w := by kernel_rfl
theorem caBL (x : Array Value) (w : World) : Sem.run Tryd.prog (callFunc 74 x) w = .ok (.enter 74 x) w := by kernel_rfl
theorem caSW (x : Array Value) (w : World) : Sem.run Tryd.prog (callFunc 80 x) w = .ok (.enter 80 x) w := by kernel_rfl
theorem caBW (x : Array Value) (w : World) : Sem.run Tryd.prog (callFunc 76 x) w = .ok (.enter 76 x) w := by kernel_rfl
theorem nm72L (g : Nat) (w : World) : Sem.run Tryd.prog (nilAhead 237 72 (.pointer (some ⟨g, 0, none⟩)) "plantwright/blocks.load") w = .ok (some false) w := by kernel_rfl
theorem nm72S (g : Nat) (w : World) : Sem.run Tryd.prog (nilAhead 237 72 (.pointer (some ⟨g, 0, none⟩)) "plantwright/blocks.step") w = .ok (some false) w := by kernel_rfl
theorem me72L (g : Nat) (w : World) : Sem.run Tryd.prog (method 237 72 (.pointer (some ⟨g, 0, none⟩)) "plantwright/blocks.load") w = .ok (64, .pointer (some ⟨g, 0, none⟩)) w := by kernel_rfl
theorem me72S (g : Nat) (w : World) : Sem.run Tryd.prog (method 237 72 (.pointer (some ⟨g, 0, none⟩)) "plantwright/blocks.step") w = .ok (69, .pointer (some ⟨g, 0, none⟩)) w := by kernel_rfl
theorem me72W (g : Nat) (w : World) : Sem.run Tryd.prog (method 237 72 (.pointer (some ⟨g, 0, none⟩)) "plantwright/blocks.words") w = .ok (66, .pointer (some ⟨g, 0, none⟩)) w := by kernel_rfl
theorem ca72 (x : Array Value) (w : World) : Sem.run Tryd.prog (callFunc 69 x) w = .ok (.enter 69 x) w := by kernel_rfl
theorem nm77L (g : Nat) (w : World) : Sem.run Tryd.prog (nilAhead 237 77 (.pointer (some ⟨g, 0, none⟩)) "plantwright/blocks.load") w = .ok (some false) w := by kernel_rfl
theorem nm77S (g : Nat) (w : World) : Sem.run Tryd.prog (nilAhead 237 77 (.pointer (some ⟨g, 0, none⟩)) "plantwright/blocks.step") w = .ok (some false) w := by kernel_rfl
theorem me77L (g : Nat) (w : World) : Sem.run Tryd.prog (method 237 77 (.pointer (some ⟨g, 0, none⟩)) "plantwright/blocks.load") w = .ok (74, .pointer (some ⟨g, 0, none⟩)) w := by kernel_rfl
theorem me77S (g : Nat) (w : World) : Sem.run Tryd.prog (method 237 77 (.pointer (some ⟨g, 0, none⟩)) "plantwright/blocks.step") w = .ok (75, .pointer (some ⟨g, 0, none⟩)) w := by kernel_rfl
theorem me77W (g : Nat) (w : World) : Sem.run Tryd.prog (method 237 77 (.pointer (some ⟨g, 0, none⟩)) "plantwright/blocks.words") w = .ok (76, .pointer (some ⟨g, 0, none⟩)) w := by kernel_rfl
theorem ca77 (x : Array Value) (w : World) : Sem.run Tryd.prog (callFunc 75 x) w = .ok (.enter 75 x) w := by kernel_rfl
theorem nm80L (g : Nat) (w : World) : Sem.run Tryd.prog (nilAhead 237 80 (.pointer (some ⟨g, 0, none⟩)) "plantwright/blocks.load") w = .ok (some false) w := by kernel_rfl
theorem nm80S (g : Nat) (w : World) : Sem.run Tryd.prog (nilAhead 237 80 (.pointer (some ⟨g, 0, none⟩)) "plantwright/blocks.step") w = .ok (some false) w := by kernel_rfl
theorem me80L (g : Nat) (w : World) : Sem.run Tryd.prog (method 237 80 (.pointer (some ⟨g, 0, none⟩)) "plantwright/blocks.load") w = .ok (78, .pointer (some ⟨g, 0, none⟩)) w := by kernel_rfl
theorem me80S (g : Nat) (w : World) : Sem.run Tryd.prog (method 237 80 (.pointer (some ⟨g, 0, none⟩)) "plantwright/blocks.step") w = .ok (79, .pointer (some ⟨g, 0, none⟩)) w := by kernel_rfl
theorem me80W (g : Nat) (w : World) : Sem.run Tryd.prog (method 237 80 (.pointer (some ⟨g, 0, none⟩)) "plantwright/blocks.words") w = .ok (80, .pointer (some ⟨g, 0, none⟩)) w := by kernel_rfl
theorem ca80 (x : Array Value) (w : World) : Sem.run Tryd.prog (callFunc 79 x) w = .ok (.enter 79 x) w := by kernel_rfl
theorem nm85L (g : Nat) (w : World) : Sem.run Tryd.prog (nilAhead 237 85 (.pointer (some ⟨g, 0, none⟩)) "plantwright/blocks.load") w = .ok (some false) w := by kernel_rfl
theorem nm85S (g : Nat) (w : World) : Sem.run Tryd.prog (nilAhead 237 85 (.pointer (some ⟨g, 0, none⟩)) "plantwright/blocks.step") w = .ok (some false) w := by kernel_rfl
theorem me85L (g : Nat) (w : World) : Sem.run Tryd.prog (method 237 85 (.pointer (some ⟨g, 0, none⟩)) "plantwright/blocks.load") w = .ok (78, .pointer (some ⟨g, 0, none⟩)) w := by kernel_rfl
theorem me85S (g : Nat) (w : World) : Sem.run Tryd.prog (method 237 85 (.pointer (some ⟨g, 0, none⟩)) "plantwright/blocks.step") w = .ok (81, .pointer (some ⟨g, 0, none⟩)) w := by kernel_rfl
theorem me85W (g : Nat) (w : World) : Sem.run Tryd.prog (method 237 85 (.pointer (some ⟨g, 0, none⟩)) "plantwright/blocks.words") w = .ok (80, .pointer (some ⟨g, 0, none⟩)) w := by kernel_rfl
theorem ca85 (x : Array Value) (w : World) : Sem.run Tryd.prog (callFunc 81 x) w = .ok (.enter 81 x) w := by kernel_rfl
theorem nm88L (g : Nat) (w : World) : Sem.run Tryd.prog (nilAhead 237 88 (.pointer (some ⟨g, 0, none⟩)) "plantwright/blocks.load") w = .ok (some false) w := by kernel_rfl
theorem nm88S (g : Nat) (w : World) : Sem.run Tryd.prog (nilAhead 237 88 (.pointer (some ⟨g, 0, none⟩)) "plantwright/blocks.step") w = .ok (some false) w := by kernel_rfl
theorem me88L (g : Nat) (w : World) : Sem.run Tryd.prog (method 237 88 (.pointer (some ⟨g, 0, none⟩)) "plantwright/blocks.load") w = .ok (78, .pointer (some ⟨g, 0, none⟩)) w := by kernel_rfl
theorem me88S (g : Nat) (w : World) : Sem.run Tryd.prog (method 237 88 (.pointer (some ⟨g, 0, none⟩)) "plantwright/blocks.step") w = .ok (82, .pointer (some ⟨g, 0, none⟩)) w := by kernel_rfl
theorem me88W (g : Nat) (w : World) : Sem.run Tryd.prog (method 237 88 (.pointer (some ⟨g, 0, none⟩)) "plantwright/blocks.words") w = .ok (80, .pointer (some ⟨g, 0, none⟩)) w := by kernel_rfl
theorem ca88 (x : Array Value) (w : World) : Sem.run Tryd.prog (callFunc 82 x) w = .ok (.enter 82 x) w := by kernel_rfl
theorem nm91L (g : Nat) (w : World) : Sem.run Tryd.prog (nilAhead 237 91 (.pointer (some ⟨g, 0, none⟩)) "plantwright/blocks.load") w = .ok (some false) w := by kernel_rfl
theorem nm91S (g : Nat) (w : World) : Sem.run Tryd.prog (nilAhead 237 91 (.pointer (some ⟨g, 0, none⟩)) "plantwright/blocks.step") w = .ok (some false) w := by kernel_rfl
theorem me91L (g : Nat) (w : World) : Sem.run Tryd.prog (method 237 91 (.pointer (some ⟨g, 0, none⟩)) "plantwright/blocks.load") w = .ok (78, .pointer (some ⟨g, 0, none⟩)) w := by kernel_rfl
theorem me91S (g : Nat) (w : World) : Sem.run Tryd.prog (method 237 91 (.pointer (some ⟨g, 0, none⟩)) "plantwright/blocks.step") w = .ok (83, .pointer (some ⟨g, 0, none⟩)) w := by kernel_rfl
theorem me91W (g : Nat) (w : World) : Sem.run Tryd.prog (method 237 91 (.pointer (some ⟨g, 0, none⟩)) "plantwright/blocks.words") w = .ok (80, .pointer (some ⟨g, 0, none⟩)) w := by kernel_rfl
theorem ca91 (x : Array Value) (w : World) : Sem.run Tryd.prog (callFunc 83 x) w = .ok (.enter 83 x) w := by kernel_rfl
theorem tp_step {w0 w : World} {Ks : List Box} {Os : List Row} {g gi ci : Nat} {t : TypeId} {a b c d x pt now : Int} (h : Mem w0 w (⟨g, t, c4 a b c d⟩ :: Ks) (intR (some ⟨gi, 0, none⟩) ci [x, pt] :: Os)) (ha : a = 0 ∨ a = 1) (hx : x = 0 ∨ x = 1) (hn : 0 ≤ now ∧ now ≤ 4294967295) (hb : 0 ≤ b ∧ b ≤ 4294967295) :
    Calls Tryd.prog 69 #[.pointer (some ⟨g, 0, none⟩), .slice (some ⟨gi, 0, none⟩) 2 ci, .int .i64 now] w fun e w' => ∃ g', e = .returned (.slice (some ⟨g', 0, none⟩) 2 2) ∧ Mem w0 w' (⟨g, t, c4 (tpS a b c d x pt now).a (tpS a b c d x pt now).b (tpS a b c d x pt now).c (tpS a b c d x pt now).d⟩ :: Ks) (intR (some ⟨g', 0, none⟩) 2 [(tpS a b c d x pt now).q, (tpS a b c d x pt now).e] :: intR (some ⟨gi, 0, none⟩) ci [x, pt] :: Os) := by
  rcases hx with rfl | rfl
  · rcases ha with rfl | rfl
    · rw [show tpS 0 b c d 0 pt now = _ from (if_neg (by decide)).trans (if_pos rfl)]
      exact tp_idle h
    · rw [show tpS 1 b c d 0 pt now = _ from (if_neg (by decide)).trans (if_neg (by decide))]
      exact tp_low h hn.1 hn.2 hb.1 hb.2
  · rcases ha with rfl | rfl
    · by_cases hc : c = 0
      · subst hc
        rw [show tpS 0 b 0 d 1 pt now = _ from (if_pos rfl).trans ((if_pos rfl).trans (if_pos rfl))]
        exact tp_new h hn.1 hn.2
      · rw [show tpS 0 b c d 1 pt now = _ from (if_pos rfl).trans ((if_pos rfl).trans (if_neg hc))]
        exact tp_off h hc
    · rw [show tpS 1 b c d 1 pt now = _ from (if_pos rfl).trans (if_neg (by decide))]
      by_cases hc : c = 0
      · subst hc
        exact tp_go h hn.1 hn.2 hb.1 hb.2
      · exact tp_on h hn.1 hn.2 hb.1 hb.2 hc

theorem ctd_step {w0 w : World} {Ks : List Box} {Os : List Row} {g gi ci : Nat} {t : TypeId} {p n x r v now : Int} (h : Mem w0 w (⟨g, t, k3 false p n⟩ :: Ks) (intR (some ⟨gi, 0, none⟩) ci [x, r, v] :: Os)) (hp : p = 0 ∨ p = 1) (hx : x = 0 ∨ x = 1) (hr : r = 0 ∨ r = 1) (hn : -32768 ≤ n) (hn' : n ≤ 32767) :
    Calls Tryd.prog 71 #[.pointer (some ⟨g, 0, none⟩), .slice (some ⟨gi, 0, none⟩) 3 ci, .int .i64 now] w fun e w' => ∃ g', e = .returned (.slice (some ⟨g', 0, none⟩) 2 2) ∧ Mem w0 w' (⟨g, t, k3 false x (ctdN p n x r v)⟩ :: Ks) (intR (some ⟨g', 0, none⟩) 2 [if ctdN p n x r v ≤ 0 then 1 else 0, ctdN p n x r v] :: intR (some ⟨gi, 0, none⟩) ci [x, r, v] :: Os) := by
  rcases hp with rfl | rfl <;> rcases hx with rfl | rfl <;> rcases hr with rfl | rfl
  · exact ctd_C0 h
  · exact ctd_C1 h
  · exact ctd_A0 h hn hn'
  · exact ctd_A1 h
  · exact ctd_C0 h
  · exact ctd_C1 h
  · exact ctd_B0 h (by decide)
  · exact ctd_B1 h (by decide)

theorem rtrig_step {w0 w : World} {Ks : List Box} {Os : List Row} {g gi ci : Nat} {t : TypeId} {a x now : Int} (h : Mem w0 w (⟨g, t, #[.int .i64 a, .bool true]⟩ :: Ks) (intR (some ⟨gi, 0, none⟩) ci [x] :: Os)) (ha : a = 0 ∨ a = 1) (hx : x = 0 ∨ x = 1) :
    Calls Tryd.prog 79 #[.pointer (some ⟨g, 0, none⟩), .slice (some ⟨gi, 0, none⟩) 1 ci, .int .i64 now] w fun e w' => ∃ g', e = .returned (.slice (some ⟨g', 0, none⟩) 1 1) ∧ Mem w0 w' (⟨g, t, #[.int .i64 x, .bool true]⟩ :: Ks) (intR (some ⟨g', 0, none⟩) 1 [riseF a x] :: intR (some ⟨gi, 0, none⟩) ci [x] :: Os) := by
  rcases ha with rfl | rfl <;> rcases hx with rfl | rfl
  · exact edge_r00 h
  · exact edge_r10 h
  · exact edge_r01 h
  · exact edge_r11 h

theorem ftrig_step {w0 w : World} {Ks : List Box} {Os : List Row} {g gi ci : Nat} {t : TypeId} {a x now : Int} (h : Mem w0 w (⟨g, t, #[.int .i64 a, .bool false]⟩ :: Ks) (intR (some ⟨gi, 0, none⟩) ci [x] :: Os)) (ha : a = 0 ∨ a = 1) (hx : x = 0 ∨ x = 1) :
    Calls Tryd.prog 79 #[.pointer (some ⟨g, 0, none⟩), .slice (some ⟨gi, 0, none⟩) 1 ci, .int .i64 now] w fun e w' => ∃ g', e = .returned (.slice (some ⟨g', 0, none⟩) 1 1) ∧ Mem w0 w' (⟨g, t, #[.int .i64 x, .bool false]⟩ :: Ks) (intR (some ⟨g', 0, none⟩) 1 [fallF a x] :: intR (some ⟨gi, 0, none⟩) ci [x] :: Os) := by
  rcases ha with rfl | rfl <;> rcases hx with rfl | rfl
  · exact edge_f00 h
  · exact edge_f10 h
  · exact edge_f01 h
  · exact edge_f11 h

theorem sr_step {w0 w : World} {Ks : List Box} {Os : List Row} {g gi ci : Nat} {t : TypeId} {a x r now : Int} (h : Mem w0 w (⟨g, t, #[.int .i64 a, .bool false]⟩ :: Ks) (intR (some ⟨gi, 0, none⟩) ci [x, r] :: Os)) (ha : a = 0 ∨ a = 1) (hx : x = 0 ∨ x = 1) (hr : r = 0 ∨ r = 1) :
    Calls Tryd.prog 81 #[.pointer (some ⟨g, 0, none⟩), .slice (some ⟨gi, 0, none⟩) 2 ci, .int .i64 now] w fun e w' => ∃ g', e = .returned (.slice (some ⟨g', 0, none⟩) 1 1) ∧ Mem w0 w' (⟨g, t, #[.int .i64 (srF a x r), .bool false]⟩ :: Ks) (intR (some ⟨g', 0, none⟩) 1 [srF a x r] :: intR (some ⟨gi, 0, none⟩) ci [x, r] :: Os) := by
  rcases ha with rfl | rfl <;> rcases hx with rfl | rfl <;> rcases hr with rfl | rfl
  · exact latch_s000 h
  · exact latch_s010 h
  · exact latch_s100 h
  · exact latch_s110 h
  · exact latch_s001 h
  · exact latch_s011 h
  · exact latch_s101 h
  · exact latch_s111 h

theorem rs_step {w0 w : World} {Ks : List Box} {Os : List Row} {g gi ci : Nat} {t : TypeId} {a x r now : Int} (h : Mem w0 w (⟨g, t, #[.int .i64 a, .bool true]⟩ :: Ks) (intR (some ⟨gi, 0, none⟩) ci [x, r] :: Os)) (ha : a = 0 ∨ a = 1) (hx : x = 0 ∨ x = 1) (hr : r = 0 ∨ r = 1) :
    Calls Tryd.prog 81 #[.pointer (some ⟨g, 0, none⟩), .slice (some ⟨gi, 0, none⟩) 2 ci, .int .i64 now] w fun e w' => ∃ g', e = .returned (.slice (some ⟨g', 0, none⟩) 1 1) ∧ Mem w0 w' (⟨g, t, #[.int .i64 (rsF a x r), .bool true]⟩ :: Ks) (intR (some ⟨g', 0, none⟩) 1 [rsF a x r] :: intR (some ⟨gi, 0, none⟩) ci [x, r] :: Os) := by
  rcases ha with rfl | rfl <;> rcases hx with rfl | rfl <;> rcases hr with rfl | rfl
  · exact latch_r000 h
  · exact latch_r010 h
  · exact latch_r100 h
  · exact latch_r110 h
  · exact latch_r001 h
  · exact latch_r011 h
  · exact latch_r101 h
  · exact latch_r111 h

theorem hyst_step {w0 w : World} {Ks : List Box} {Os : List Row} {g gi ci : Nat} {t : TypeId} {a x y z now : Int} (h : Mem w0 w (⟨g, t, #[.int .i64 a]⟩ :: Ks) (intR (some ⟨gi, 0, none⟩) ci [x, y, z] :: Os))  :
    Calls Tryd.prog 83 #[.pointer (some ⟨g, 0, none⟩), .slice (some ⟨gi, 0, none⟩) 3 ci, .int .i64 now] w fun e w' => ∃ g', e = .returned (.slice (some ⟨g', 0, none⟩) 1 1) ∧ Mem w0 w' (⟨g, t, #[.int .i64 (hystF a x y z)]⟩ :: Ks) (intR (some ⟨g', 0, none⟩) 1 [hystF a x y z] :: intR (some ⟨gi, 0, none⟩) ci [x, y, z] :: Os) := by
  by_cases h1 : y ≤ x
  · rw [show hystF a x y z = 1 from if_pos h1]
    exact hyst_hi h h1
  · by_cases h2 : x ≤ z
    · rw [show hystF a x y z = 0 from (if_neg h1).trans (if_pos h2)]
      exact hyst_lo h h1 h2
    · rw [show hystF a x y z = a from (if_neg h1).trans (if_neg h2)]
      exact hyst_mid h h1 h2

theorem ud_step {w0 w : World} {Ks : List Box} {Os : List Row} {g gs cs gi ci : Nat} {t : TypeId} {a b n x y r l v now : Int} (h : Mem w0 w (⟨g, t, #[.slice (some ⟨gs, 0, none⟩) 3 cs]⟩ :: Ks) (intR (some ⟨gi, 0, none⟩) ci [x, y, r, l, v] :: intR (some ⟨gs, 0, none⟩) cs [a, b, n] :: Os)) (ha : a = 0 ∨ a = 1) (hb : b = 0 ∨ b = 1) (hx : x = 0 ∨ x = 1) (hy : y = 0 ∨ y = 1) (hr : r = 0 ∨ r = 1) (hl : l = 0 ∨ l = 1) (hn : -32768 ≤ n) (hn' : n ≤ 32767) :
    Calls Tryd.prog 75 #[.pointer (some ⟨g, 0, none⟩), .slice (some ⟨gi, 0, none⟩) 5 ci, .int .i64 now] w fun e w' => ∃ g' g2, e = .returned (.slice (some ⟨g', 0, none⟩) 3 3) ∧ Mem w0 w' (⟨g, t, #[.slice (some ⟨g2, 0, none⟩) 3 3]⟩ :: Ks) (intR (some ⟨g', 0, none⟩) 3 [if v ≤ udN a b n x y r l v then 1 else 0, if udN a b n x y r l v ≤ 0 then 1 else 0, udN a b n x y r l v] :: intR (some ⟨g2, 0, none⟩) 3 [x, y, udN a b n x y r l v] :: intR (some ⟨gi, 0, none⟩) ci [x, y, r, l, v] :: intR (some ⟨gs, 0, none⟩) cs [a, b, n] :: Os) := by
  rcases hx with rfl | rfl <;> rcases hy with rfl | rfl <;> rcases ha with rfl | rfl <;> rcases hb with rfl | rfl <;> rcases hr with rfl | rfl
  · rcases hl with rfl | rfl
    · rw [show udN 0 0 n 0 0 0 0 v = n from by simp [udN]]
      exact both_CCc h
    · rw [show udN 0 0 n 0 0 0 1 v = v from (if_neg (by decide)).trans (if_pos rfl)]
      exact both_CCl h
  · rw [show udN 0 0 n 0 0 1 l v = 0 from if_pos rfl]
    exact both_CCr h
  · rcases hl with rfl | rfl
    · rw [show udN 0 1 n 0 0 0 0 v = n from by simp [udN]]
      exact both_CCc h
    · rw [show udN 0 1 n 0 0 0 1 v = v from (if_neg (by decide)).trans (if_pos rfl)]
      exact both_CCl h
  · rw [show udN 0 1 n 0 0 1 l v = 0 from if_pos rfl]
    exact both_CCr h
  · rcases hl with rfl | rfl
    · rw [show udN 1 0 n 0 0 0 0 v = n from by simp [udN]]
      exact both_CCc h
    · rw [show udN 1 0 n 0 0 0 1 v = v from (if_neg (by decide)).trans (if_pos rfl)]
      exact both_CCl h
  · rw [show udN 1 0 n 0 0 1 l v = 0 from if_pos rfl]
    exact both_CCr h
  · rcases hl with rfl | rfl
    · rw [show udN 1 1 n 0 0 0 0 v = n from by simp [udN]]
      exact both_CCc h
    · rw [show udN 1 1 n 0 0 0 1 v = v from (if_neg (by decide)).trans (if_pos rfl)]
      exact both_CCl h
  · rw [show udN 1 1 n 0 0 1 l v = 0 from if_pos rfl]
    exact both_CCr h
  · rcases hl with rfl | rfl
    · rw [show udN 0 0 n 0 1 0 0 v = max (n - 1) (-32768) from by simp [udN]]
      exact both_CAc h hn hn'
    · rw [show udN 0 0 n 0 1 0 1 v = v from (if_neg (by decide)).trans (if_pos rfl)]
      exact both_CAl h
  · rw [show udN 0 0 n 0 1 1 l v = 0 from if_pos rfl]
    exact both_CAr h
  · rcases hl with rfl | rfl
    · rw [show udN 0 1 n 0 1 0 0 v = n from by simp [udN]]
      exact both_CBc h (by decide)
    · rw [show udN 0 1 n 0 1 0 1 v = v from (if_neg (by decide)).trans (if_pos rfl)]
      exact both_CBl h (by decide)
  · rw [show udN 0 1 n 0 1 1 l v = 0 from if_pos rfl]
    exact both_CBr h (by decide)
  · rcases hl with rfl | rfl
    · rw [show udN 1 0 n 0 1 0 0 v = max (n - 1) (-32768) from by simp [udN]]
      exact both_CAc h hn hn'
    · rw [show udN 1 0 n 0 1 0 1 v = v from (if_neg (by decide)).trans (if_pos rfl)]
      exact both_CAl h
  · rw [show udN 1 0 n 0 1 1 l v = 0 from if_pos rfl]
    exact both_CAr h
  · rcases hl with rfl | rfl
    · rw [show udN 1 1 n 0 1 0 0 v = n from by simp [udN]]
      exact both_CBc h (by decide)
    · rw [show udN 1 1 n 0 1 0 1 v = v from (if_neg (by decide)).trans (if_pos rfl)]
      exact both_CBl h (by decide)
  · rw [show udN 1 1 n 0 1 1 l v = 0 from if_pos rfl]
    exact both_CBr h (by decide)
  · rcases hl with rfl | rfl
    · rw [show udN 0 0 n 1 0 0 0 v = min (n + 1) 32767 from by simp [udN]]
      exact both_ACc h hn hn'
    · rw [show udN 0 0 n 1 0 0 1 v = v from (if_neg (by decide)).trans (if_pos rfl)]
      exact both_ACl h
  · rw [show udN 0 0 n 1 0 1 l v = 0 from if_pos rfl]
    exact both_ACr h
  · rcases hl with rfl | rfl
    · rw [show udN 0 1 n 1 0 0 0 v = min (n + 1) 32767 from by simp [udN]]
      exact both_ACc h hn hn'
    · rw [show udN 0 1 n 1 0 0 1 v = v from (if_neg (by decide)).trans (if_pos rfl)]
      exact both_ACl h
  · rw [show udN 0 1 n 1 0 1 l v = 0 from if_pos rfl]
    exact both_ACr h
  · rcases hl with rfl | rfl
    · rw [show udN 1 0 n 1 0 0 0 v = n from by simp [udN]]
      exact both_BCc h (by decide)
    · rw [show udN 1 0 n 1 0 0 1 v = v from (if_neg (by decide)).trans (if_pos rfl)]
      exact both_BCl h (by decide)
  · rw [show udN 1 0 n 1 0 1 l v = 0 from if_pos rfl]
    exact both_BCr h (by decide)
  · rcases hl with rfl | rfl
    · rw [show udN 1 1 n 1 0 0 0 v = n from by simp [udN]]
      exact both_BCc h (by decide)
    · rw [show udN 1 1 n 1 0 0 1 v = v from (if_neg (by decide)).trans (if_pos rfl)]
      exact both_BCl h (by decide)
  · rw [show udN 1 1 n 1 0 1 l v = 0 from if_pos rfl]
    exact both_BCr h (by decide)
  · rcases hl with rfl | rfl
    · rw [show udN 0 0 n 1 1 0 0 v = n from by simp [udN]]
      exact both_AAc h
    · rw [show udN 0 0 n 1 1 0 1 v = v from (if_neg (by decide)).trans (if_pos rfl)]
      exact both_AAl h
  · rw [show udN 0 0 n 1 1 1 l v = 0 from if_pos rfl]
    exact both_AAr h
  · rcases hl with rfl | rfl
    · rw [show udN 0 1 n 1 1 0 0 v = min (n + 1) 32767 from by simp [udN]]
      exact both_ABc h (by decide) hn hn'
    · rw [show udN 0 1 n 1 1 0 1 v = v from (if_neg (by decide)).trans (if_pos rfl)]
      exact both_ABl h (by decide)
  · rw [show udN 0 1 n 1 1 1 l v = 0 from if_pos rfl]
    exact both_ABr h (by decide)
  · rcases hl with rfl | rfl
    · rw [show udN 1 0 n 1 1 0 0 v = max (n - 1) (-32768) from by simp [udN]]
      exact both_BAc h (by decide) hn hn'
    · rw [show udN 1 0 n 1 1 0 1 v = v from (if_neg (by decide)).trans (if_pos rfl)]
      exact both_BAl h (by decide)
  · rw [show udN 1 0 n 1 1 1 l v = 0 from if_pos rfl]
    exact both_BAr h (by decide)
  · rcases hl with rfl | rfl
    · rw [show udN 1 1 n 1 1 0 0 v = n from by simp [udN]]
      exact both_BBc h (by decide) (by decide)
    · rw [show udN 1 1 n 1 1 0 1 v = v from (if_neg (by decide)).trans (if_pos rfl)]
      exact both_BBl h (by decide) (by decide)
  · rw [show udN 1 1 n 1 1 1 l v = 0 from if_pos rfl]
    exact both_BBr h (by decide) (by decide)

def tpB : Body := fun s i now => match s, i with
  | [s0, s1, s2, s3], [i0, i1] => ([(tpS s0 s1 s2 s3 i0 i1 now).a, (tpS s0 s1 s2 s3 i0 i1 now).b, (tpS s0 s1 s2 s3 i0 i1 now).c, (tpS s0 s1 s2 s3 i0 i1 now).d], [(tpS s0 s1 s2 s3 i0 i1 now).q, (tpS s0 s1 s2 s3 i0 i1 now).e])
  | _, _ => ([], [])
theorem tp_st : pinsL b_tp.st = [⟨⟨#[114, 117, 110]⟩, 1⟩, ⟨⟨#[115, 105, 110, 99, 101]⟩, 5⟩, ⟨⟨#[112, 114, 101, 118]⟩, 1⟩, ⟨⟨#[97, 116]⟩, 5⟩] := by kernel_rfl
theorem tp_ins : pinsL b_tp.ins = [⟨⟨#[105, 110]⟩, 1⟩, ⟨⟨#[112, 116]⟩, 5⟩] := by kernel_rfl
theorem does_tp : StepC b_tp tpB 4 2 := by
  intro m A n c l A' n' c' l' now w hm hr hr' hb hb' hn
  obtain ⟨x0, x1, x2, x3, hs⟩ := fit_four l ⟨⟨#[114, 117, 110]⟩, 1⟩ ⟨⟨#[115, 105, 110, 99, 101]⟩, 5⟩ ⟨⟨#[112, 114, 101, 118]⟩, 1⟩ ⟨⟨#[97, 116]⟩, 5⟩
  obtain ⟨y0, y1, hi⟩ := fit_two l' ⟨⟨#[105, 110]⟩, 1⟩ ⟨⟨#[112, 116]⟩, 5⟩
  have e : stepF b_tp tpB l l' now = ([(tpS (wrapF 1 x0) (wrapF 5 x1) (wrapF 1 x2) (wrapF 5 x3) (wrapF 1 y0) (wrapF 5 y1) (wrapF 5 now)).a, (tpS (wrapF 1 x0) (wrapF 5 x1) (wrapF 1 x2) (wrapF 5 x3) (wrapF 1 y0) (wrapF 5 y1) (wrapF 5 now)).b, (tpS (wrapF 1 x0) (wrapF 5 x1) (wrapF 1 x2) (wrapF 5 x3) (wrapF 1 y0) (wrapF 5 y1) (wrapF 5 now)).c, (tpS (wrapF 1 x0) (wrapF 5 x1) (wrapF 1 x2) (wrapF 5 x3) (wrapF 1 y0) (wrapF 5 y1) (wrapF 5 now)).d], [(tpS (wrapF 1 x0) (wrapF 5 x1) (wrapF 1 x2) (wrapF 5 x3) (wrapF 1 y0) (wrapF 5 y1) (wrapF 5 now)).q, (tpS (wrapF 1 x0) (wrapF 5 x1) (wrapF 1 x2) (wrapF 5 x3) (wrapF 1 y0) (wrapF 5 y1) (wrapF 5 now)).e]) := by
    unfold stepF tpB
    rw [tp_st, tp_ins, hs, hi]
  rw [e]
  exact step_known b_tp.nm b_tp.ins b_tp.outs b_tp.st _ _ 2 4 2 72 73 (c4 0 0 0 0) (c4 (wrapF 1 x0) (wrapF 5 x1) (wrapF 1 x2) (wrapF 5 x3)) (c4 (tpS (wrapF 1 x0) (wrapF 5 x1) (wrapF 1 x2) (wrapF 5 x3) (wrapF 1 y0) (wrapF 5 y1) (wrapF 5 now)).a (tpS (wrapF 1 x0) (wrapF 5 x1) (wrapF 1 x2) (wrapF 5 x3) (wrapF 1 y0) (wrapF 5 y1) (wrapF 5 now)).b (tpS (wrapF 1 x0) (wrapF 5 x1) (wrapF 1 x2) (wrapF 5 x3) (wrapF 1 y0) (wrapF 5 y1) (wrapF 5 now)).c (tpS (wrapF 1 x0) (wrapF 5 x1) (wrapF 1 x2) (wrapF 5 x3) (wrapF 1 y0) (wrapF 5 y1) (wrapF 5 now)).d) 64 69 66
    [wrapF 1 x0, wrapF 5 x1, wrapF 1 x2, wrapF 5 x3] [wrapF 1 y0, wrapF 5 y1] _ _ _ m A n c l A' n' c' l' now w hm hr hr' hb hb' hn made_tp tp_ins tp_st (by kernel_rfl) (by kernel_rfl) rfl rfl (by decide) (by decide) hs hi rfl nm72L nm72S me72L me72S me72W caCL ca72 caCW
    (fun w1 Ks Os g gf h => load_clock h.out) (fun w1 Ks Os g gi h => tp_step h.out (bool_fit x0) (bool_fit y0) (time_fit now) (time_fit x1)) (fun w1 Ks Os g h => words_clock h.out)
def ctdB : Body := fun s i _ => match s, i with
  | [s0, s1], [i0, i1, i2] => ([i0, ctdN s0 s1 i0 i1 i2], [if ctdN s0 s1 i0 i1 i2 ≤ 0 then 1 else 0, ctdN s0 s1 i0 i1 i2])
  | _, _ => ([], [])
theorem ctd_st : pinsL b_ctd.st = [⟨⟨#[112, 114, 101, 118]⟩, 1⟩, ⟨⟨#[99, 111, 117, 110, 116]⟩, 2⟩] := by kernel_rfl
theorem ctd_ins : pinsL b_ctd.ins = [⟨⟨#[99, 100]⟩, 1⟩, ⟨⟨#[108, 100]⟩, 1⟩, ⟨⟨#[112, 118]⟩, 2⟩] := by kernel_rfl
theorem does_ctd : StepC b_ctd ctdB 2 2 := by
  intro m A n c l A' n' c' l' now w hm hr hr' hb hb' hn
  obtain ⟨x0, x1, hs⟩ := fit_two l ⟨⟨#[112, 114, 101, 118]⟩, 1⟩ ⟨⟨#[99, 111, 117, 110, 116]⟩, 2⟩
  obtain ⟨y0, y1, y2, hi⟩ := fit_three l' ⟨⟨#[99, 100]⟩, 1⟩ ⟨⟨#[108, 100]⟩, 1⟩ ⟨⟨#[112, 118]⟩, 2⟩
  have e : stepF b_ctd ctdB l l' now = ([(wrapF 1 y0), ctdN (wrapF 1 x0) (wrapF 2 x1) (wrapF 1 y0) (wrapF 1 y1) (wrapF 2 y2)], [if ctdN (wrapF 1 x0) (wrapF 2 x1) (wrapF 1 y0) (wrapF 1 y1) (wrapF 2 y2) ≤ 0 then 1 else 0, ctdN (wrapF 1 x0) (wrapF 2 x1) (wrapF 1 y0) (wrapF 1 y1) (wrapF 2 y2)]) := by
    unfold stepF ctdB
    rw [ctd_st, ctd_ins, hs, hi]
  rw [e]
  exact step_known b_ctd.nm b_ctd.ins b_ctd.outs b_ctd.st _ _ 3 2 2 74 76 (k3 false 0 0) (k3 false (wrapF 1 x0) (wrapF 2 x1)) (k3 false (wrapF 1 y0) (ctdN (wrapF 1 x0) (wrapF 2 x1) (wrapF 1 y0) (wrapF 1 y1) (wrapF 2 y2))) 70 71 72
    [wrapF 1 x0, wrapF 2 x1] [wrapF 1 y0, wrapF 1 y1, wrapF 2 y2] _ _ _ m A n c l A' n' c' l' now w hm hr hr' hb hb' hn made_ctd ctd_ins ctd_st (by kernel_rfl) (by kernel_rfl) rfl rfl (by decide) (by decide) hs hi rfl nm74L nm74S me74L me74S me74W ca_cL ca_cS ca_cW
    (fun w1 Ks Os g gf h => load_counter h.out) (fun w1 Ks Os g gi h => ctd_step h.out (bool_fit x0) (bool_fit y0) (bool_fit y1) (int_fit x1).1 (int_fit x1).2) (fun w1 Ks Os g h => words_counter h.out)
def rtrigB : Body := fun s i _ => match s, i with
  | [s0], [i0] => ([i0], [riseF s0 i0])
  | _, _ => ([], [])
theorem rtrig_st : pinsL b_rtrig.st = [⟨⟨#[112, 114, 101, 118]⟩, 1⟩] := by kernel_rfl
theorem rtrig_ins : pinsL b_rtrig.ins = [⟨⟨#[99, 108, 107]⟩, 1⟩] := by kernel_rfl
theorem does_rtrig : StepC b_rtrig rtrigB 1 1 := by
  intro m A n c l A' n' c' l' now w hm hr hr' hb hb' hn
  obtain ⟨x0, hs⟩ := fit_one l ⟨⟨#[112, 114, 101, 118]⟩, 1⟩
  obtain ⟨y0, hi⟩ := fit_one l' ⟨⟨#[99, 108, 107]⟩, 1⟩
  have e : stepF b_rtrig rtrigB l l' now = ([(wrapF 1 y0)], [riseF (wrapF 1 x0) (wrapF 1 y0)]) := by
    unfold stepF rtrigB
    rw [rtrig_st, rtrig_ins, hs, hi]
  rw [e]
  exact step_known b_rtrig.nm b_rtrig.ins b_rtrig.outs b_rtrig.st _ _ 1 1 1 80 84 (#[.int .i64 0, .bool true]) (#[.int .i64 (wrapF 1 x0), .bool true]) (#[.int .i64 (wrapF 1 y0), .bool true]) 78 79 80
    [wrapF 1 x0] [wrapF 1 y0] _ _ _ m A n c l A' n' c' l' now w hm hr hr' hb hb' hn made_rtrig rtrig_ins rtrig_st (by kernel_rfl) (by kernel_rfl) rfl rfl (by decide) (by decide) hs hi rfl nm80L nm80S me80L me80S me80W caSL ca80 caSW
    (fun w1 Ks Os g gf h => load_single h.out rfl) (fun w1 Ks Os g gi h => rtrig_step h.out (bool_fit x0) (bool_fit y0)) (fun w1 Ks Os g h => words_single h.out rfl)
def ftrigB : Body := fun s i _ => match s, i with
  | [s0], [i0] => ([i0], [fallF s0 i0])
  | _, _ => ([], [])
theorem ftrig_st : pinsL b_ftrig.st = [⟨⟨#[112, 114, 101, 118]⟩, 1⟩] := by kernel_rfl
theorem ftrig_ins : pinsL b_ftrig.ins = [⟨⟨#[99, 108, 107]⟩, 1⟩] := by kernel_rfl
theorem does_ftrig : StepC b_ftrig ftrigB 1 1 := by
  intro m A n c l A' n' c' l' now w hm hr hr' hb hb' hn
  obtain ⟨x0, hs⟩ := fit_one l ⟨⟨#[112, 114, 101, 118]⟩, 1⟩
  obtain ⟨y0, hi⟩ := fit_one l' ⟨⟨#[99, 108, 107]⟩, 1⟩
  have e : stepF b_ftrig ftrigB l l' now = ([(wrapF 1 y0)], [fallF (wrapF 1 x0) (wrapF 1 y0)]) := by
    unfold stepF ftrigB
    rw [ftrig_st, ftrig_ins, hs, hi]
  rw [e]
  exact step_known b_ftrig.nm b_ftrig.ins b_ftrig.outs b_ftrig.st _ _ 1 1 1 80 84 (#[.int .i64 0, .bool false]) (#[.int .i64 (wrapF 1 x0), .bool false]) (#[.int .i64 (wrapF 1 y0), .bool false]) 78 79 80
    [wrapF 1 x0] [wrapF 1 y0] _ _ _ m A n c l A' n' c' l' now w hm hr hr' hb hb' hn made_ftrig ftrig_ins ftrig_st (by kernel_rfl) (by kernel_rfl) rfl rfl (by decide) (by decide) hs hi rfl nm80L nm80S me80L me80S me80W caSL ca80 caSW
    (fun w1 Ks Os g gf h => load_single h.out rfl) (fun w1 Ks Os g gi h => ftrig_step h.out (bool_fit x0) (bool_fit y0)) (fun w1 Ks Os g h => words_single h.out rfl)
def srB : Body := fun s i _ => match s, i with
  | [s0], [i0, i1] => ([srF s0 i0 i1], [srF s0 i0 i1])
  | _, _ => ([], [])
theorem sr_st : pinsL b_sr.st = [⟨⟨#[111, 110]⟩, 1⟩] := by kernel_rfl
theorem sr_ins : pinsL b_sr.ins = [⟨⟨#[115, 49]⟩, 1⟩, ⟨⟨#[114]⟩, 1⟩] := by kernel_rfl
theorem does_sr : StepC b_sr srB 1 1 := by
  intro m A n c l A' n' c' l' now w hm hr hr' hb hb' hn
  obtain ⟨x0, hs⟩ := fit_one l ⟨⟨#[111, 110]⟩, 1⟩
  obtain ⟨y0, y1, hi⟩ := fit_two l' ⟨⟨#[115, 49]⟩, 1⟩ ⟨⟨#[114]⟩, 1⟩
  have e : stepF b_sr srB l l' now = ([srF (wrapF 1 x0) (wrapF 1 y0) (wrapF 1 y1)], [srF (wrapF 1 x0) (wrapF 1 y0) (wrapF 1 y1)]) := by
    unfold stepF srB
    rw [sr_st, sr_ins, hs, hi]
  rw [e]
  exact step_known b_sr.nm b_sr.ins b_sr.outs b_sr.st _ _ 2 1 1 85 87 (#[.int .i64 0, .bool false]) (#[.int .i64 (wrapF 1 x0), .bool false]) (#[.int .i64 (srF (wrapF 1 x0) (wrapF 1 y0) (wrapF 1 y1)), .bool false]) 78 81 80
    [wrapF 1 x0] [wrapF 1 y0, wrapF 1 y1] _ _ _ m A n c l A' n' c' l' now w hm hr hr' hb hb' hn made_sr sr_ins sr_st (by kernel_rfl) (by kernel_rfl) rfl rfl (by decide) (by decide) hs hi rfl nm85L nm85S me85L me85S me85W caSL ca85 caSW
    (fun w1 Ks Os g gf h => load_single h.out rfl) (fun w1 Ks Os g gi h => sr_step h.out (bool_fit x0) (bool_fit y0) (bool_fit y1)) (fun w1 Ks Os g h => words_single h.out rfl)
def rsB : Body := fun s i _ => match s, i with
  | [s0], [i0, i1] => ([rsF s0 i0 i1], [rsF s0 i0 i1])
  | _, _ => ([], [])
theorem rs_st : pinsL b_rs.st = [⟨⟨#[111, 110]⟩, 1⟩] := by kernel_rfl
theorem rs_ins : pinsL b_rs.ins = [⟨⟨#[115]⟩, 1⟩, ⟨⟨#[114, 49]⟩, 1⟩] := by kernel_rfl
theorem does_rs : StepC b_rs rsB 1 1 := by
  intro m A n c l A' n' c' l' now w hm hr hr' hb hb' hn
  obtain ⟨x0, hs⟩ := fit_one l ⟨⟨#[111, 110]⟩, 1⟩
  obtain ⟨y0, y1, hi⟩ := fit_two l' ⟨⟨#[115]⟩, 1⟩ ⟨⟨#[114, 49]⟩, 1⟩
  have e : stepF b_rs rsB l l' now = ([rsF (wrapF 1 x0) (wrapF 1 y0) (wrapF 1 y1)], [rsF (wrapF 1 x0) (wrapF 1 y0) (wrapF 1 y1)]) := by
    unfold stepF rsB
    rw [rs_st, rs_ins, hs, hi]
  rw [e]
  exact step_known b_rs.nm b_rs.ins b_rs.outs b_rs.st _ _ 2 1 1 85 87 (#[.int .i64 0, .bool true]) (#[.int .i64 (wrapF 1 x0), .bool true]) (#[.int .i64 (rsF (wrapF 1 x0) (wrapF 1 y0) (wrapF 1 y1)), .bool true]) 78 81 80
    [wrapF 1 x0] [wrapF 1 y0, wrapF 1 y1] _ _ _ m A n c l A' n' c' l' now w hm hr hr' hb hb' hn made_rs rs_ins rs_st (by kernel_rfl) (by kernel_rfl) rfl rfl (by decide) (by decide) hs hi rfl nm85L nm85S me85L me85S me85W caSL ca85 caSW
    (fun w1 Ks Os g gf h => load_single h.out rfl) (fun w1 Ks Os g gi h => rs_step h.out (bool_fit x0) (bool_fit y0) (bool_fit y1)) (fun w1 Ks Os g h => words_single h.out rfl)
def rampB : Body := fun s i _ => match s, i with
  | [s0], [i0, i1] => ([rampF s0 i0 i1], [rampF s0 i0 i1])
  | _, _ => ([], [])
theorem ramp_st : pinsL b_ramp.st = [⟨⟨#[97, 116]⟩, 2⟩] := by kernel_rfl
theorem ramp_ins : pinsL b_ramp.ins = [⟨⟨#[120]⟩, 2⟩, ⟨⟨#[115, 116, 101, 112]⟩, 2⟩] := by kernel_rfl
theorem does_ramp : StepC b_ramp rampB 1 1 := by
  intro m A n c l A' n' c' l' now w hm hr hr' hb hb' hn
  obtain ⟨x0, hs⟩ := fit_one l ⟨⟨#[97, 116]⟩, 2⟩
  obtain ⟨y0, y1, hi⟩ := fit_two l' ⟨⟨#[120]⟩, 2⟩ ⟨⟨#[115, 116, 101, 112]⟩, 2⟩
  have e : stepF b_ramp rampB l l' now = ([rampF (wrapF 2 x0) (wrapF 2 y0) (wrapF 2 y1)], [rampF (wrapF 2 x0) (wrapF 2 y0) (wrapF 2 y1)]) := by
    unfold stepF rampB
    rw [ramp_st, ramp_ins, hs, hi]
  rw [e]
  exact step_known b_ramp.nm b_ramp.ins b_ramp.outs b_ramp.st _ _ 2 1 1 88 90 (#[.int .i64 0]) (#[.int .i64 (wrapF 2 x0)]) (#[.int .i64 (rampF (wrapF 2 x0) (wrapF 2 y0) (wrapF 2 y1))]) 78 82 80
    [wrapF 2 x0] [wrapF 2 y0, wrapF 2 y1] _ _ _ m A n c l A' n' c' l' now w hm hr hr' hb hb' hn made_ramp ramp_ins ramp_st (by kernel_rfl) (by kernel_rfl) rfl rfl (by decide) (by decide) hs hi rfl nm88L nm88S me88L me88S me88W caSL ca88 caSW
    (fun w1 Ks Os g gf h => load_single h.out rfl) (fun w1 Ks Os g gi h => ramp_step h.out (int_fit x0).1 (int_fit x0).2 (int_fit y1).1 (int_fit y1).2) (fun w1 Ks Os g h => words_single h.out rfl)
def hystB : Body := fun s i _ => match s, i with
  | [s0], [i0, i1, i2] => ([hystF s0 i0 i1 i2], [hystF s0 i0 i1 i2])
  | _, _ => ([], [])
theorem hyst_st : pinsL b_hyst.st = [⟨⟨#[111, 110]⟩, 1⟩] := by kernel_rfl
theorem hyst_ins : pinsL b_hyst.ins = [⟨⟨#[120]⟩, 2⟩, ⟨⟨#[104, 105]⟩, 2⟩, ⟨⟨#[108, 111]⟩, 2⟩] := by kernel_rfl
theorem does_hyst : StepC b_hyst hystB 1 1 := by
  intro m A n c l A' n' c' l' now w hm hr hr' hb hb' hn
  obtain ⟨x0, hs⟩ := fit_one l ⟨⟨#[111, 110]⟩, 1⟩
  obtain ⟨y0, y1, y2, hi⟩ := fit_three l' ⟨⟨#[120]⟩, 2⟩ ⟨⟨#[104, 105]⟩, 2⟩ ⟨⟨#[108, 111]⟩, 2⟩
  have e : stepF b_hyst hystB l l' now = ([hystF (wrapF 1 x0) (wrapF 2 y0) (wrapF 2 y1) (wrapF 2 y2)], [hystF (wrapF 1 x0) (wrapF 2 y0) (wrapF 2 y1) (wrapF 2 y2)]) := by
    unfold stepF hystB
    rw [hyst_st, hyst_ins, hs, hi]
  rw [e]
  exact step_known b_hyst.nm b_hyst.ins b_hyst.outs b_hyst.st _ _ 3 1 1 91 92 (#[.int .i64 0]) (#[.int .i64 (wrapF 1 x0)]) (#[.int .i64 (hystF (wrapF 1 x0) (wrapF 2 y0) (wrapF 2 y1) (wrapF 2 y2))]) 78 83 80
    [wrapF 1 x0] [wrapF 2 y0, wrapF 2 y1, wrapF 2 y2] _ _ _ m A n c l A' n' c' l' now w hm hr hr' hb hb' hn made_hyst hyst_ins hyst_st (by kernel_rfl) (by kernel_rfl) rfl rfl (by decide) (by decide) hs hi rfl nm91L nm91S me91L me91S me91W caSL ca91 caSW
    (fun w1 Ks Os g gf h => load_single h.out rfl) (fun w1 Ks Os g gi h => hyst_step h.out) (fun w1 Ks Os g h => words_single h.out rfl)
theorem both_load {w0 w : World} {Ks : List Box} {Os : List Row} {g gf : Nat} {t : TypeId} {v : Value} {a b c : Int} (h : Mem w0 w (⟨g, t, #[v]⟩ :: Ks) (intR (some ⟨gf, 0, none⟩) 3 [a, b, c] :: Os)) :
    Calls Tryd.prog 74 #[.pointer (some ⟨g, 0, none⟩), .slice (some ⟨gf, 0, none⟩) 3 3] w fun e w' => e = .returned (.tuple #[]) ∧ ∃ gs cc, Mem w0 w' (⟨g, t, #[.slice (some ⟨gs, 0, none⟩) 3 cc]⟩ :: Ks) (intR (some ⟨gs, 0, none⟩) cc [a, b, c] :: intR (some ⟨gf, 0, none⟩) 3 [a, b, c] :: Os) := by
  refine (load_both h).mono ?_
  rintro e w1 ⟨rfl, A', c', h1⟩
  obtain ⟨gs, rfl, _⟩ := h1.head (by simp)
  exact ⟨rfl, gs, c', h1⟩
theorem both_step {w0 w : World} {Ks : List Box} {Os : List Row} {g gs cs gi ci : Nat} {t : TypeId} {a b n x y r l v now : Int} (h : Mem w0 w (⟨g, t, #[.slice (some ⟨gs, 0, none⟩) 3 cs]⟩ :: Ks) (intR (some ⟨gi, 0, none⟩) ci [x, y, r, l, v] :: intR (some ⟨gs, 0, none⟩) cs [a, b, n] :: Os)) (ha : a = 0 ∨ a = 1) (hb : b = 0 ∨ b = 1) (hx : x = 0 ∨ x = 1) (hy : y = 0 ∨ y = 1) (hr : r = 0 ∨ r = 1) (hl : l = 0 ∨ l = 1) (hn : -32768 ≤ n) (hn' : n ≤ 32767) :
    Calls Tryd.prog 75 #[.pointer (some ⟨g, 0, none⟩), .slice (some ⟨gi, 0, none⟩) 5 ci, .int .i64 now] w fun e w' => ∃ g' g2 Os', e = .returned (.slice (some ⟨g', 0, none⟩) 3 3) ∧ Mem w0 w' (⟨g, t, #[.slice (some ⟨g2, 0, none⟩) 3 3]⟩ :: Ks) (intR (some ⟨g', 0, none⟩) 3 [if v ≤ udN a b n x y r l v then 1 else 0, if udN a b n x y r l v ≤ 0 then 1 else 0, udN a b n x y r l v] :: intR (some ⟨g2, 0, none⟩) 3 [x, y, udN a b n x y r l v] :: Os') := by
  refine (ud_step h ha hb hx hy hr hl hn hn').mono ?_
  rintro e w1 ⟨g', g2, rfl, h1⟩
  exact ⟨g', g2, _, rfl, h1⟩

def ctudB : Body := fun s i _ => match s, i with
  | [s0, s1, s2], [i0, i1, i2, i3, i4] => ([i0, i1, udN s0 s1 s2 i0 i1 i2 i3 i4], [if i4 ≤ udN s0 s1 s2 i0 i1 i2 i3 i4 then 1 else 0, if udN s0 s1 s2 i0 i1 i2 i3 i4 ≤ 0 then 1 else 0, udN s0 s1 s2 i0 i1 i2 i3 i4])
  | _, _ => ([], [])
theorem ctud_st : pinsL b_ctud.st = [⟨⟨#[117, 112]⟩, 1⟩, ⟨⟨#[100, 111, 119, 110]⟩, 1⟩, ⟨⟨#[99, 111, 117, 110, 116]⟩, 2⟩] := by kernel_rfl
theorem ctud_ins : pinsL b_ctud.ins = [⟨⟨#[99, 117]⟩, 1⟩, ⟨⟨#[99, 100]⟩, 1⟩, ⟨⟨#[114]⟩, 1⟩, ⟨⟨#[108, 100]⟩, 1⟩, ⟨⟨#[112, 118]⟩, 2⟩] := by kernel_rfl
theorem does_ctud : StepC b_ctud ctudB 3 3 := by
  intro m A n c l A' n' c' l' now w hm hr hr' hb hb' hn
  obtain ⟨x0, x1, x2, hs⟩ := fit_three l ⟨⟨#[117, 112]⟩, 1⟩ ⟨⟨#[100, 111, 119, 110]⟩, 1⟩ ⟨⟨#[99, 111, 117, 110, 116]⟩, 2⟩
  obtain ⟨y0, y1, y2, y3, y4, hi⟩ := fit_five l' ⟨⟨#[99, 117]⟩, 1⟩ ⟨⟨#[99, 100]⟩, 1⟩ ⟨⟨#[114]⟩, 1⟩ ⟨⟨#[108, 100]⟩, 1⟩ ⟨⟨#[112, 118]⟩, 2⟩
  have e : stepF b_ctud ctudB l l' now = ([(wrapF 1 y0), (wrapF 1 y1), udN (wrapF 1 x0) (wrapF 1 x1) (wrapF 2 x2) (wrapF 1 y0) (wrapF 1 y1) (wrapF 1 y2) (wrapF 1 y3) (wrapF 2 y4)], [if (wrapF 2 y4) ≤ udN (wrapF 1 x0) (wrapF 1 x1) (wrapF 2 x2) (wrapF 1 y0) (wrapF 1 y1) (wrapF 1 y2) (wrapF 1 y3) (wrapF 2 y4) then 1 else 0, if udN (wrapF 1 x0) (wrapF 1 x1) (wrapF 2 x2) (wrapF 1 y0) (wrapF 1 y1) (wrapF 1 y2) (wrapF 1 y3) (wrapF 2 y4) ≤ 0 then 1 else 0, udN (wrapF 1 x0) (wrapF 1 x1) (wrapF 2 x2) (wrapF 1 y0) (wrapF 1 y1) (wrapF 1 y2) (wrapF 1 y3) (wrapF 2 y4)]) := by
    unfold stepF ctudB
    rw [ctud_st, ctud_ins, hs, hi]
  rw [e]
  exact step_both b_ctud.nm b_ctud.ins b_ctud.outs b_ctud.st _ _ 5 3 3 77 79 (#[.slice none 0 0]) 74 75 76
    [wrapF 1 x0, wrapF 1 x1, wrapF 2 x2] [wrapF 1 y0, wrapF 1 y1, wrapF 1 y2, wrapF 1 y3, wrapF 2 y4] _ _ _ m A n c l A' n' c' l' now w hm hr hr' hb hb' hn made_ctud ctud_ins ctud_st (by kernel_rfl) (by kernel_rfl) rfl rfl (by decide) (by decide) hs hi rfl nm77L nm77S me77L me77S me77W caBL ca77 caBW
    (fun w1 Ks Os g gf h => both_load h.out) (fun w1 Ks Os g gi gs cc h => both_step h.out (bool_fit x0) (bool_fit x1) (bool_fit y0) (bool_fit y1) (bool_fit y2) (bool_fit y3) (int_fit x2).1 (int_fit x2).2) (fun w1 Ks Os g A n c h => words_both h.out)
end Go.Proofs.YthgjjclmepfbpaaDoor.Blk
