/-
  Timers against how long an input has been on, or off. No conditions: plain lemmas.
-/
import Derived.Test.YthgjjclmepfbpaaDoorBlkV
namespace Go.Proofs.YthgjjclmepfbpaaDoor.Blk
open Go.RowKit Go.Proofs.YthgjjclmepfbpaaDoor.W Go.Proofs.YthgjjclmepfbpaaDoor.Ints Go.Proofs.YthgjjclmepfbpaaDoor.Cell Go.Proofs.YthgjjclmepfbpaaDoor.Num

local macro "om" : tactic => `(tactic| ((try dsimp only); (try simp only [if_neg, if_pos, Bool.false_eq_true, reduceIte]); omega))
theorem wrap5 (n : Int) : wrapF 5 n = n % 4294967296 := by unfold wrapF; rw [if_neg (by decide), if_neg (by decide), if_neg (by decide), if_neg (by decide), if_pos rfl]
def bit (b : Bool) : Int := if b = true then 1 else 0
/-- ton's words say for how long its input has been on -/
def OnI (now high : Int) (late : Bool) (a b c d : Int) : Prop :=
  (0 ≤ d ∧ d ≤ 4294967295) ∧ c = bit late ∧ ((high < 0 ∧ a = 0 ∧ b = 0 ∧ late = false) ∨ (0 ≤ high ∧ high ≤ 4294967295 ∧ a = 1 ∧ b = (now - high) % 4294967296))
/-- tof's words say for how long its input has been off -/
def OffI (now low : Int) (held : Bool) (a b c d : Int) : Prop :=
  (0 ≤ d ∧ d ≤ 4294967295) ∧ c = bit held ∧ (a = 0 ∨ a = 1) ∧ (0 ≤ b ∧ b ≤ 4294967295) ∧ (held = true → (low < 0 ∧ a = 0) ∨ (0 ≤ low ∧ low ≤ 4294967295 ∧ a = 1 ∧ b = (now - low) % 4294967296))
theorem far_is {now high pt : Int} (h0 : 0 ≤ high) (h1 : high ≤ 4294967295) : farF (now % 4294967296) ((now - high) % 4294967296) pt = min high pt := by
  unfold farF
  rw [wrap5, show (now % 4294967296 - (now - high) % 4294967296) % 4294967296 = high by omega]
theorem far_now {now pt : Int} (hp : 0 ≤ pt) : farF now now pt = 0 := by
  unfold farF
  rw [wrap5, show (now - now) % 4294967296 = 0 by omega]
  omega
theorem min_eq_pt (h pt : Int) : (min h pt == pt) = decide (pt ≤ h) := by
  by_cases e : pt ≤ h
  · rw [decide_eq_true e]
    rw [beq_iff_eq]
    omega
  · rw [decide_eq_false e, beq_eq_false_iff_ne]
    omega
theorem on_off (now _high : Int) (_late : Bool) (a b c d pt : Int) : (tonS a b c d 0 pt (now % 4294967296)).q = bit false ∧ ∀ now', OnI now' (-1) false (tonS a b c d 0 pt (now % 4294967296)).a (tonS a b c d 0 pt (now % 4294967296)).b (tonS a b c d 0 pt (now % 4294967296)).c (tonS a b c d 0 pt (now % 4294967296)).d := by
  rw [show tonS a b c d 0 pt (now % 4294967296) = ⟨0, 0, 0, 0, 0, 0⟩ from if_pos rfl]
  exact ⟨rfl, fun _ => ⟨⟨by decide, by decide⟩, rfl, .inl ⟨by decide, rfl, rfl, rfl⟩⟩⟩
theorem on_on {now high : Int} {late : Bool} {a b c d pt : Int} (h : OnI now high late a b c d) (hp : 0 ≤ pt) (hp' : pt ≤ 4294967295) {high1 : Int} (e1 : high1 = if high < 0 then 0 else high) {late1 : Bool} (e2 : late1 = (late || decide (pt ≤ high1))) :
    (tonS a b c d 1 pt (now % 4294967296)).q = bit late1 ∧ ∀ step, 0 ≤ step → high1 + step ≤ 4294967295 → OnI (now + step) (high1 + step) late1 (tonS a b c d 1 pt (now % 4294967296)).a (tonS a b c d 1 pt (now % 4294967296)).b (tonS a b c d 1 pt (now % 4294967296)).c (tonS a b c d 1 pt (now % 4294967296)).d := by
  obtain ⟨⟨d0, d1⟩, hc, h⟩ := h
  rcases h with ⟨hl, rfl, rfl, rfl⟩ | ⟨h0, h1, rfl, rfl⟩
  · obtain rfl : high1 = 0 := by rw [e1, if_pos hl]
    rw [show tonS 0 0 c d 1 pt (now % 4294967296) = _ from (if_neg (by decide)).trans (if_pos rfl), far_now hp]
    have e3 : ((0 : Int) == pt) = late1 := by
      rw [e2, Bool.false_or]
      by_cases e : pt ≤ 0
      · obtain rfl : pt = 0 := by omega
        rfl
      · rw [decide_eq_false e]
        simp
        omega
    rw [e3]
    exact ⟨rfl, fun step s0 s1 => ⟨⟨by om, by om⟩, rfl, .inr ⟨by om, by om, rfl, by om⟩⟩⟩
  · obtain rfl : high1 = high := by rw [e1, if_neg (by omega)]
    cases late
    · obtain rfl : c = 0 := hc
      rw [show tonS 1 ((now - high1) % 4294967296) 0 d 1 pt (now % 4294967296) = _ from (if_neg (by decide)).trans ((if_neg (by decide)).trans (if_pos rfl)), far_is h0 h1, min_eq_pt]
      rw [Bool.false_or] at e2
      rw [← e2]
      exact ⟨rfl, fun step s0 s1 => ⟨⟨by om, by om⟩, rfl, .inr ⟨by om, by om, rfl, by om⟩⟩⟩
    · obtain rfl : c = 1 := hc
      rw [show tonS 1 ((now - high1) % 4294967296) 1 d 1 pt (now % 4294967296) = _ from (if_neg (by decide)).trans ((if_neg (by decide)).trans (if_neg (by decide)))]
      rw [Bool.true_or] at e2
      rw [e2]
      exact ⟨rfl, fun step s0 s1 => ⟨⟨by om, by om⟩, rfl, .inr ⟨by om, by om, rfl, by om⟩⟩⟩
theorem off_on (a b c d pt now : Int) : (tofS a b c d 1 pt (now % 4294967296)).q = bit true ∧ ∀ now', OffI now' (-1) true (tofS a b c d 1 pt (now % 4294967296)).a (tofS a b c d 1 pt (now % 4294967296)).b (tofS a b c d 1 pt (now % 4294967296)).c (tofS a b c d 1 pt (now % 4294967296)).d := by
  rw [show tofS a b c d 1 pt (now % 4294967296) = ⟨0, 0, 1, 0, 1, 0⟩ from if_pos rfl]
  exact ⟨rfl, fun _ => ⟨⟨by decide, by decide⟩, rfl, .inl rfl, ⟨by decide, by decide⟩, fun _ => .inl ⟨by decide, rfl⟩⟩⟩
theorem off_off {now low : Int} {held : Bool} {a b c d pt : Int} (h : OffI now low held a b c d) (hp : 0 ≤ pt) (hp' : pt ≤ 4294967295) {low1 : Int} (e1 : low1 = if low < 0 then 0 else low) {held1 : Bool} (e2 : held1 = (held && decide (low1 < pt))) :
    (tofS a b c d 0 pt (now % 4294967296)).q = bit held1 ∧ ∀ step, 0 ≤ step → low1 + step ≤ 4294967295 → OffI (now + step) (low1 + step) held1 (tofS a b c d 0 pt (now % 4294967296)).a (tofS a b c d 0 pt (now % 4294967296)).b (tofS a b c d 0 pt (now % 4294967296)).c (tofS a b c d 0 pt (now % 4294967296)).d := by
  obtain ⟨⟨d0, d1⟩, hc, ha, ⟨b0, b1⟩, h⟩ := h
  cases held
  · obtain rfl : c = 0 := hc
    rw [show tofS a b 0 d 0 pt (now % 4294967296) = _ from (if_neg (by decide)).trans (if_pos (by decide))]
    rw [Bool.false_and] at e2
    rw [e2]
    exact ⟨rfl, fun step s0 s1 => ⟨⟨d0, d1⟩, rfl, ha, ⟨b0, b1⟩, fun h => by cases h⟩⟩
  · obtain rfl : c = 1 := hc
    rw [Bool.true_and] at e2
    rcases h rfl with ⟨hl, rfl⟩ | ⟨h0, h1, rfl, rfl⟩
    · obtain rfl : low1 = 0 := by rw [e1, if_pos hl]
      rw [show tofS 0 b 1 d 0 pt (now % 4294967296) = _ from (if_neg (by decide)).trans ((if_neg (by decide)).trans (if_pos rfl)), far_now hp]
      by_cases e : 0 < pt
      · obtain rfl : held1 = true := by rw [e2, decide_eq_true e]
        rw [show ((0 : Int) == pt) = false by rw [beq_eq_false_iff_ne]; omega]
        exact ⟨rfl, fun step s0 s1 => ⟨⟨by om, by om⟩, rfl, .inr rfl, ⟨by om, by om⟩, fun _ => .inr ⟨by om, by om, rfl, by om⟩⟩⟩
      · obtain rfl : held1 = false := by rw [e2, decide_eq_false e]
        rw [show ((0 : Int) == pt) = true by rw [beq_iff_eq]; omega]
        exact ⟨rfl, fun step s0 s1 => ⟨⟨by om, by om⟩, rfl, .inl rfl, ⟨by om, by om⟩, fun h => by cases h⟩⟩
    · obtain rfl : low1 = low := by rw [e1, if_neg (by omega)]
      rw [show tofS 1 ((now - low1) % 4294967296) 1 d 0 pt (now % 4294967296) = _ from (if_neg (by decide)).trans ((if_neg (by decide)).trans (if_neg (by decide))), far_is h0 h1, min_eq_pt]
      by_cases e : low1 < pt
      · obtain rfl : held1 = true := by rw [e2, decide_eq_true e]
        rw [decide_eq_false (show ¬ pt ≤ low1 by omega)]
        exact ⟨rfl, fun step s0 s1 => ⟨⟨by om, by om⟩, rfl, .inr rfl, ⟨by om, by om⟩, fun _ => .inr ⟨by om, by om, rfl, by om⟩⟩⟩
      · obtain rfl : held1 = false := by rw [e2, decide_eq_false e]
        rw [decide_eq_true (show pt ≤ low1 by omega)]
        exact ⟨rfl, fun step s0 s1 => ⟨⟨by om, by om⟩, rfl, .inl rfl, ⟨by om, by om⟩, fun h => by cases h⟩⟩
end Go.Proofs.YthgjjclmepfbpaaDoor.Blk
