/-
  Step at each of the twelve blocks, as one kind of fact. Conditions: both lists read; the ints are ints.
-/
import Derived.Test.YthgjjclmepfbpaaDoorBlkV
namespace Go.Proofs.YthgjjclmepfbpaaDoor.Blk
open Go.RowKit Go.Proofs.YthgjjclmepfbpaaDoor.W Go.Proofs.YthgjjclmepfbpaaDoor.Ints Go.Proofs.YthgjjclmepfbpaaDoor.Cell Go.Proofs.YthgjjclmepfbpaaDoor.Num

theorem fit_one (l : List Int) (p : PN) : ∃ a, fitF l [p] = [wrapF p.kind a] := by
  have h := raw_len l [p]
  match hr : rawF l [p], h with
  | [a], _ => exact ⟨a, by simp [fitF, hr]⟩
theorem fit_five (l : List Int) (p q r s t : PN) : ∃ a b c d e, fitF l [p, q, r, s, t] = [wrapF p.kind a, wrapF q.kind b, wrapF r.kind c, wrapF s.kind d, wrapF t.kind e] := by
  have h := raw_len l [p, q, r, s, t]
  match hr : rawF l [p, q, r, s, t], h with
  | [a, b, c, d, e], _ => exact ⟨a, b, c, d, e, by simp [fitF, hr]⟩
/-- what a block does: its words, its inputs, the time -/
abbrev Body := List Int → List Int → Int → List Int × List Int
def stepF (b : BT) (B : Body) (l l' : List Int) (now : Int) : List Int × List Int := B (fitF l (pinsL b.st)) (fitF l' (pinsL b.ins)) (wrapF 5 now)
/-- Step at a block does that -/
def StepC (b : BT) (B : Body) (N3 NO : Nat) : Prop := ∀ (m : Int) (A : Option Addr) (n c : Nat) (l : List Int) (A' : Option Addr) (n' c' : Nat) (l' : List Int) (now : Int) (w : World), w.cell? ⟨0, 0, none⟩ = some (.int .i64 m) → Rd w 1 A n (ints l) → Rd w 1 A' n' (ints l') → (∀ x ∈ l, I64 x) → (∀ x ∈ l', I64 x) → I64 now →
    Calls Tryd.prog 15 #[.string b.nm, .slice A n c, .slice A' n' c', .int .i64 now] w fun e w' => ∃ g2 g3, e = .returned (.tuple #[.slice (some ⟨g2, 0, none⟩) N3 N3, .slice (some ⟨g3, 0, none⟩) NO NO]) ∧ Mem w w' [] [⟨3, 1, some ⟨g2, 0, none⟩, N3, N3, ints (stepF b B l l' now).1⟩, ⟨3, 1, some ⟨g3, 0, none⟩, NO, NO, ints (stepF b B l l' now).2⟩]
def tonB : Body := fun s i now => match s, i with
  | [a, b, c, d], [x, pt] => ([(tonS a b c d x pt now).a, (tonS a b c d x pt now).b, (tonS a b c d x pt now).c, (tonS a b c d x pt now).d], [(tonS a b c d x pt now).q, (tonS a b c d x pt now).e])
  | _, _ => ([], [])
def tofB : Body := fun s i now => match s, i with
  | [a, b, c, d], [x, pt] => ([(tofS a b c d x pt now).a, (tofS a b c d x pt now).b, (tofS a b c d x pt now).c, (tofS a b c d x pt now).d], [(tofS a b c d x pt now).q, (tofS a b c d x pt now).e])
  | _, _ => ([], [])
def ctuB : Body := fun s i _ => match s, i with
  | [p, n], [x, r, v] => ([x, ctuN p n x r], [if v ≤ ctuN p n x r then 1 else 0, ctuN p n x r])
  | _, _ => ([], [])
theorem tonF_eq (l l' : List Int) (now : Int) : tonF l l' now = stepF b_ton tonB l l' now := by
  unfold tonF stepF tonB
  rfl
theorem tofF_eq (l l' : List Int) (now : Int) : tofF l l' now = stepF b_tof tofB l l' now := by
  unfold tofF stepF tofB
  rfl
theorem ctuF_eq (l l' : List Int) (now : Int) : ctuF l l' = stepF b_ctu ctuB l l' now := by
  unfold ctuF stepF ctuB
  rfl
theorem does_ton : StepC b_ton tonB 4 2 := by
  intro m A n c l A' n' c' l' now w hm hr hr' hb hb' hn
  rw [← tonF_eq]
  exact Step_ton m A n c l A' n' c' l' now w hm hr hr' hb hb' hn
theorem does_tof : StepC b_tof tofB 4 2 := by
  intro m A n c l A' n' c' l' now w hm hr hr' hb hb' hn
  rw [← tofF_eq]
  exact Step_tof m A n c l A' n' c' l' now w hm hr hr' hb hb' hn
theorem does_ctu : StepC b_ctu ctuB 2 2 := by
  intro m A n c l A' n' c' l' now w hm hr hr' hb hb' hn
  rw [← ctuF_eq]
  exact Step_ctu m A n c l A' n' c' l' now w hm hr hr' hb hb' hn

/-! ### the plain steps -/
def tpS (a b c d x pt now : Int) : Tm :=
  if x = 1 then
    if a = 0 then
      if c = 0 then ⟨if farF now now pt == pt then 0 else 1, if farF now now pt == pt then 0 else now, 1, farF now now pt, if farF now now pt == pt then 0 else 1, farF now now pt⟩
      else ⟨0, b, 1, d, 0, d⟩
    else ⟨if farF now b pt == pt then 0 else 1, if farF now b pt == pt then 0 else b, 1, farF now b pt, if farF now b pt == pt then 0 else 1, farF now b pt⟩
  else if a = 0 then ⟨0, b, 0, 0, 0, 0⟩
  else ⟨if farF now b pt == pt then 0 else 1, if farF now b pt == pt then 0 else b, 0, farF now b pt, if farF now b pt == pt then 0 else 1, farF now b pt⟩
def ctdN (p n x r v : Int) : Int := if r = 1 then v else if x = 1 ∧ p = 0 then max (n - 1) (-32768) else n
def udN (a b n x y r l v : Int) : Int :=
  if r = 1 then 0 else if l = 1 then v
  else if (x = 1 ∧ a = 0) ∧ ¬ (y = 1 ∧ b = 0) then min (n + 1) 32767
  else if (y = 1 ∧ b = 0) ∧ ¬ (x = 1 ∧ a = 0) then max (n - 1) (-32768) else n
def riseF (a x : Int) : Int := if x = 1 ∧ a = 0 then 1 else 0
def fallF (a x : Int) : Int := if x = 0 ∧ a = 1 then 1 else 0
def srF (a x r : Int) : Int := if x = 1 ∨ a = 1 ∧ r = 0 then 1 else 0
def rsF (a x r : Int) : Int := if (x = 1 ∨ a = 1) ∧ r = 0 then 1 else 0
def hystF (a x y z : Int) : Int := if y ≤ x then 1 else if x ≤ z then 0 else a
end Go.Proofs.YthgjjclmepfbpaaDoor.Blk
