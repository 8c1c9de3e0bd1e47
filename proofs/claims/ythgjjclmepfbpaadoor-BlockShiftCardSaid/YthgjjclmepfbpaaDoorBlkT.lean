/-
  Step at ctu. Conditions: both lists read; the ints are ints.
-/
import Derived.Test.YthgjjclmepfbpaaDoorBlkS
import Derived.Test.YthgjjclmepfbpaaDoorBlkD
namespace Go.Proofs.YthgjjclmepfbpaaDoor.Blk
open Go.RowKit Go.Proofs.YthgjjclmepfbpaaDoor.W Go.Proofs.YthgjjclmepfbpaaDoor.Ints Go.Proofs.YthgjjclmepfbpaaDoor.Cell Go.Proofs.YthgjjclmepfbpaaDoor.Num

theorem bool_fit (x : Int) : wrapF 1 x = 0 ∨ wrapF 1 x = 1 := by unfold wrapF; rw [if_pos rfl]; omega
theorem int_fit (x : Int) : -32768 ≤ wrapF 2 x ∧ wrapF 2 x ≤ 32767 := by unfold wrapF; rw [if_neg (by decide), if_pos rfl]; omega
theorem time_fit (x : Int) : 0 ≤ wrapF 5 x ∧ wrapF 5 x ≤ 4294967295 := by unfold wrapF; rw [if_neg (by decide), if_neg (by decide), if_neg (by decide), if_neg (by decide), if_pos rfl]; omega
/-- a fitted list is made of wrapped numbers, kind by kind -/
theorem fit_two (l : List Int) (p q : PN) : ∃ a b, fitF l [p, q] = [wrapF p.kind a, wrapF q.kind b] := by
  have h := raw_len l [p, q]
  match hr : rawF l [p, q], h with
  | [a, b], _ => exact ⟨a, b, by simp [fitF, hr]⟩
theorem fit_three (l : List Int) (p q r : PN) : ∃ a b c, fitF l [p, q, r] = [wrapF p.kind a, wrapF q.kind b, wrapF r.kind c] := by
  have h := raw_len l [p, q, r]
  match hr : rawF l [p, q, r], h with
  | [a, b, c], _ => exact ⟨a, b, c, by simp [fitF, hr]⟩
theorem fit_four (l : List Int) (p q r s : PN) : ∃ a b c d, fitF l [p, q, r, s] = [wrapF p.kind a, wrapF q.kind b, wrapF r.kind c, wrapF s.kind d] := by
  have h := raw_len l [p, q, r, s]
  match hr : rawF l [p, q, r, s], h with
  | [a, b, c, d], _ => exact ⟨a, b, c, d, by simp [fitF, hr]⟩

/-- what ctu counts to -/
def ctuN (p n x r : Int) : Int := if r = 1 then 0 else if x = 1 ∧ p = 0 then min (n + 1) 32767 else n
theorem ctu_step {w0 w : World} {Ks : List Box} {Os : List Row} {g gi ci : Nat} {t : TypeId} {p n x r v now : Int} (h : Mem w0 w (⟨g, t, k3 true p n⟩ :: Ks) (intR (some ⟨gi, 0, none⟩) ci [x, r, v] :: Os)) (hp : p = 0 ∨ p = 1) (hx : x = 0 ∨ x = 1) (hr : r = 0 ∨ r = 1) (hn : -32768 ≤ n) (hn' : n ≤ 32767) :
    Calls Tryd.prog 71 #[.pointer (some ⟨g, 0, none⟩), .slice (some ⟨gi, 0, none⟩) 3 ci, .int .i64 now] w fun e w' => ∃ g', e = .returned (.slice (some ⟨g', 0, none⟩) 2 2) ∧ Mem w0 w' (⟨g, t, k3 true x (ctuN p n x r)⟩ :: Ks) (intR (some ⟨g', 0, none⟩) 2 [if v ≤ ctuN p n x r then 1 else 0, ctuN p n x r] :: intR (some ⟨gi, 0, none⟩) ci [x, r, v] :: Os) := by
  rcases hp with rfl | rfl <;> rcases hx with rfl | rfl <;> rcases hr with rfl | rfl
  · exact ctu_C0 h
  · exact ctu_C1 h
  · exact ctu_A0 h hn hn'
  · exact ctu_A1 h
  · exact ctu_C0 h
  · exact ctu_C1 h
  · exact ctu_B0 h (by decide)
  · exact ctu_B1 h (by decide)
theorem nm74L (g : Nat) (w : World) : Sem.run Tryd.prog (nilAhead 237 74 (.pointer (some ⟨g, 0, none⟩)) "plantwright/blocks.load") w = .ok (some false) w := by kernel_rfl
theorem nm74S (g : Nat) (w : World) : Sem.run Tryd.prog (nilAhead 237 74 (.pointer (some ⟨g, 0, none⟩)) "plantwright/blocks.step") w = .ok (some false) w := by kernel_rfl
theorem me74L (g : Nat) (w : World) : Sem.run Tryd.prog (method 237 74 (.pointer (some ⟨g, 0, none⟩)) "plantwright/blocks.load") w = .ok (70, .pointer (some ⟨g, 0, none⟩)) w := by kernel_rfl
theorem me74S (g : Nat) (w : World) : Sem.run Tryd.prog (method 237 74 (.pointer (some ⟨g, 0, none⟩)) "plantwright/blocks.step") w = .ok (71, .pointer (some ⟨g, 0, none⟩)) w := by kernel_rfl
theorem me74W (g : Nat) (w : World) : Sem.run Tryd.prog (method 237 74 (.pointer (some ⟨g, 0, none⟩)) "plantwright/blocks.words") w = .ok (72, .pointer (some ⟨g, 0, none⟩)) w := by kernel_rfl
theorem ca_cL (x : Array Value) (w : World) : Sem.run Tryd.prog (callFunc 70 x) w = .ok (.enter 70 x) w := by kernel_rfl
theorem ca_cS (x : Array Value) (w : World) : Sem.run Tryd.prog (callFunc 71 x) w = .ok (.enter 71 x) w := by kernel_rfl
theorem ca_cW (x : Array Value) (w : World) : Sem.run Tryd.prog (callFunc 72 x) w = .ok (.enter 72 x) w := by kernel_rfl

/-- Step at ctu -/
def ctuF (l l' : List Int) : List Int × List Int :=
  match fitF l (pinsL b_ctu.st), fitF l' (pinsL b_ctu.ins) with
  | [p, n], [x, r, v] => ([x, ctuN p n x r], [if v ≤ ctuN p n x r then 1 else 0, ctuN p n x r])
  | _, _ => ([], [])
theorem ctu_st : pinsL b_ctu.st = [⟨⟨#[112, 114, 101, 118]⟩, 1⟩, ⟨⟨#[99, 111, 117, 110, 116]⟩, 2⟩] := by kernel_rfl
theorem ctu_ins : pinsL b_ctu.ins = [⟨⟨#[99, 117]⟩, 1⟩, ⟨⟨#[114]⟩, 1⟩, ⟨⟨#[112, 118]⟩, 2⟩] := by kernel_rfl
theorem Step_ctu (m : Int) (A : Option Addr) (n c : Nat) (l : List Int) (A' : Option Addr) (n' c' : Nat) (l' : List Int) (now : Int) (w : World) (hm : w.cell? ⟨0, 0, none⟩ = some (.int .i64 m)) (hr : Rd w 1 A n (ints l)) (hr' : Rd w 1 A' n' (ints l')) (hb : ∀ x ∈ l, I64 x) (hb' : ∀ x ∈ l', I64 x) (hn : I64 now) :
    Calls Tryd.prog 15 #[.string b_ctu.nm, .slice A n c, .slice A' n' c', .int .i64 now] w fun e w' => ∃ g2 g3, e = .returned (.tuple #[.slice (some ⟨g2, 0, none⟩) 2 2, .slice (some ⟨g3, 0, none⟩) 2 2]) ∧ Mem w w' [] [⟨3, 1, some ⟨g2, 0, none⟩, 2, 2, ints (ctuF l l').1⟩, ⟨3, 1, some ⟨g3, 0, none⟩, 2, 2, ints (ctuF l l').2⟩] := by
  obtain ⟨x0, x1, hs⟩ := fit_two l ⟨⟨#[112, 114, 101, 118]⟩, 1⟩ ⟨⟨#[99, 111, 117, 110, 116]⟩, 2⟩
  obtain ⟨y0, y1, y2, hi⟩ := fit_three l' ⟨⟨#[99, 117]⟩, 1⟩ ⟨⟨#[114]⟩, 1⟩ ⟨⟨#[112, 118]⟩, 2⟩
  have hp := bool_fit x0
  have hk := int_fit x1
  have hx := bool_fit y0
  have hrr := bool_fit y1
  have e : ctuF l l' = ([wrapF 1 y0, ctuN (wrapF 1 x0) (wrapF 2 x1) (wrapF 1 y0) (wrapF 1 y1)], [if wrapF 2 y2 ≤ ctuN (wrapF 1 x0) (wrapF 2 x1) (wrapF 1 y0) (wrapF 1 y1) then 1 else 0, ctuN (wrapF 1 x0) (wrapF 2 x1) (wrapF 1 y0) (wrapF 1 y1)]) := by
    unfold ctuF
    rw [ctu_st, ctu_ins, hs, hi]
  rw [e]
  exact step_known b_ctu.nm b_ctu.ins b_ctu.outs b_ctu.st _ _ 3 2 2 74 76 (k3 true 0 0) (k3 true (wrapF 1 x0) (wrapF 2 x1)) (k3 true (wrapF 1 y0) (ctuN (wrapF 1 x0) (wrapF 2 x1) (wrapF 1 y0) (wrapF 1 y1))) 70 71 72
    [wrapF 1 x0, wrapF 2 x1] [wrapF 1 y0, wrapF 1 y1, wrapF 2 y2] _ _ _ m A n c l A' n' c' l' now w hm hr hr' hb hb' hn made_ctu ctu_ins ctu_st (by kernel_rfl) (by kernel_rfl) rfl rfl (by decide) (by decide) hs hi rfl nm74L nm74S me74L me74S me74W ca_cL ca_cS ca_cW
    (fun w1 Ks Os g gf h => load_counter h.out) (fun w1 Ks Os g gi h => ctu_step h.out hp hx hrr hk.1 hk.2) (fun w1 Ks Os g h => words_counter h.out)
end Go.Proofs.YthgjjclmepfbpaaDoor.Blk
