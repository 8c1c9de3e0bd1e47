/-
  Step at ton and tof. Conditions: both lists read; the ints are ints.
-/
import Derived.Test.YthgjjclmepfbpaaDoorBlkS
import Derived.Test.YthgjjclmepfbpaaDoorBlkB
import Derived.Test.YthgjjclmepfbpaaDoorBlkT
namespace Go.Proofs.YthgjjclmepfbpaaDoor.Blk
open Go.RowKit Go.Proofs.YthgjjclmepfbpaaDoor.W Go.Proofs.YthgjjclmepfbpaaDoor.Ints Go.Proofs.YthgjjclmepfbpaaDoor.Cell Go.Proofs.YthgjjclmepfbpaaDoor.Num

/-- a timer's four words, and its two answers -/
structure Tm where
  a : Int
  b : Int
  c : Int
  d : Int
  q : Int
  e : Int
def tonS (a b c d x pt now : Int) : Tm :=
  if x = 0 then ⟨0, 0, 0, 0, 0, 0⟩
  else if a = 0 then ⟨1, now, if farF now now pt == pt then 1 else 0, farF now now pt, if farF now now pt == pt then 1 else 0, farF now now pt⟩
  else if c = 0 then ⟨a, b, if farF now b pt == pt then 1 else 0, farF now b pt, if farF now b pt == pt then 1 else 0, farF now b pt⟩
  else ⟨a, b, c, d, c, d⟩
def tofS (a b c d x pt now : Int) : Tm :=
  if x = 1 then ⟨0, 0, 1, 0, 1, 0⟩
  else if ¬ c = 1 then ⟨a, b, c, d, c, d⟩
  else if a = 0 then ⟨if farF now now pt == pt then 0 else 1, if farF now now pt == pt then 0 else now, if farF now now pt == pt then 0 else 1, farF now now pt, if farF now now pt == pt then 0 else 1, farF now now pt⟩
  else ⟨if farF now b pt == pt then 0 else a, if farF now b pt == pt then 0 else b, if farF now b pt == pt then 0 else 1, farF now b pt, if farF now b pt == pt then 0 else 1, farF now b pt⟩

theorem ton_step {w0 w : World} {Ks : List Box} {Os : List Row} {g gi ci : Nat} {t : TypeId} {a b c d x pt now : Int} (h : Mem w0 w (⟨g, t, c4 a b c d⟩ :: Ks) (intR (some ⟨gi, 0, none⟩) ci [x, pt] :: Os)) (hx : x = 0 ∨ x = 1) (hn : 0 ≤ now ∧ now ≤ 4294967295) (hb : 0 ≤ b ∧ b ≤ 4294967295) :
    Calls Tryd.prog 65 #[.pointer (some ⟨g, 0, none⟩), .slice (some ⟨gi, 0, none⟩) 2 ci, .int .i64 now] w fun e w' => ∃ g', e = .returned (.slice (some ⟨g', 0, none⟩) 2 2) ∧ Mem w0 w' (⟨g, t, c4 (tonS a b c d x pt now).a (tonS a b c d x pt now).b (tonS a b c d x pt now).c (tonS a b c d x pt now).d⟩ :: Ks) (intR (some ⟨g', 0, none⟩) 2 [(tonS a b c d x pt now).q, (tonS a b c d x pt now).e] :: intR (some ⟨gi, 0, none⟩) ci [x, pt] :: Os) := by
  rcases hx with rfl | rfl
  · rw [show tonS a b c d 0 pt now = ⟨0, 0, 0, 0, 0, 0⟩ from if_pos rfl]
    exact ton_off h
  · by_cases ha : a = 0
    · subst ha
      rw [show tonS 0 b c d 1 pt now = _ from (if_neg (by decide)).trans (if_pos rfl)]
      exact ton_new h hn.1 hn.2
    · by_cases hc : c = 0
      · rw [show tonS a b c d 1 pt now = _ from (if_neg (by decide)).trans ((if_neg ha).trans (if_pos hc))]
        exact ton_on h ha hn.1 hn.2 hb.1 hb.2 hc
      · rw [show tonS a b c d 1 pt now = _ from (if_neg (by decide)).trans ((if_neg ha).trans (if_neg hc))]
        exact ton_held h ha hc

theorem nm65L (g : Nat) (w : World) : Sem.run Tryd.prog (nilAhead 237 65 (.pointer (some ⟨g, 0, none⟩)) "plantwright/blocks.load") w = .ok (some false) w := by kernel_rfl
theorem nm65S (g : Nat) (w : World) : Sem.run Tryd.prog (nilAhead 237 65 (.pointer (some ⟨g, 0, none⟩)) "plantwright/blocks.step") w = .ok (some false) w := by kernel_rfl
theorem me65L (g : Nat) (w : World) : Sem.run Tryd.prog (method 237 65 (.pointer (some ⟨g, 0, none⟩)) "plantwright/blocks.load") w = .ok (64, .pointer (some ⟨g, 0, none⟩)) w := by kernel_rfl
theorem me65S (g : Nat) (w : World) : Sem.run Tryd.prog (method 237 65 (.pointer (some ⟨g, 0, none⟩)) "plantwright/blocks.step") w = .ok (65, .pointer (some ⟨g, 0, none⟩)) w := by kernel_rfl
theorem me65W (g : Nat) (w : World) : Sem.run Tryd.prog (method 237 65 (.pointer (some ⟨g, 0, none⟩)) "plantwright/blocks.words") w = .ok (66, .pointer (some ⟨g, 0, none⟩)) w := by kernel_rfl
theorem ca65 (x : Array Value) (w : World) : Sem.run Tryd.prog (callFunc 65 x) w = .ok (.enter 65 x) w := by kernel_rfl
theorem caCL (x : Array Value) (w : World) : Sem.run Tryd.prog (callFunc 64 x) w = .ok (.enter 64 x) w := by kernel_rfl
theorem caCW (x : Array Value) (w : World) : Sem.run Tryd.prog (callFunc 66 x) w = .ok (.enter 66 x) w := by kernel_rfl
theorem ton_st : pinsL b_ton.st = [⟨⟨#[114, 117, 110]⟩, 1⟩, ⟨⟨#[115, 105, 110, 99, 101]⟩, 5⟩, ⟨⟨#[100, 111, 110, 101]⟩, 1⟩, ⟨⟨#[97, 116]⟩, 5⟩] := by kernel_rfl
theorem ton_ins : pinsL b_ton.ins = [⟨⟨#[105, 110]⟩, 1⟩, ⟨⟨#[112, 116]⟩, 5⟩] := by kernel_rfl
/-- Step at ton -/
def tonF (l l' : List Int) (now : Int) : List Int × List Int :=
  match fitF l (pinsL b_ton.st), fitF l' (pinsL b_ton.ins) with
  | [a, b, c, d], [x, pt] => ([(tonS a b c d x pt (wrapF 5 now)).a, (tonS a b c d x pt (wrapF 5 now)).b, (tonS a b c d x pt (wrapF 5 now)).c, (tonS a b c d x pt (wrapF 5 now)).d], [(tonS a b c d x pt (wrapF 5 now)).q, (tonS a b c d x pt (wrapF 5 now)).e])
  | _, _ => ([], [])
theorem Step_ton (m : Int) (A : Option Addr) (n c : Nat) (l : List Int) (A' : Option Addr) (n' c' : Nat) (l' : List Int) (now : Int) (w : World) (hm : w.cell? ⟨0, 0, none⟩ = some (.int .i64 m)) (hr : Rd w 1 A n (ints l)) (hr' : Rd w 1 A' n' (ints l')) (hb : ∀ x ∈ l, I64 x) (hb' : ∀ x ∈ l', I64 x) (hn : I64 now) :
    Calls Tryd.prog 15 #[.string b_ton.nm, .slice A n c, .slice A' n' c', .int .i64 now] w fun e w' => ∃ g2 g3, e = .returned (.tuple #[.slice (some ⟨g2, 0, none⟩) 4 4, .slice (some ⟨g3, 0, none⟩) 2 2]) ∧ Mem w w' [] [⟨3, 1, some ⟨g2, 0, none⟩, 4, 4, ints (tonF l l' now).1⟩, ⟨3, 1, some ⟨g3, 0, none⟩, 2, 2, ints (tonF l l' now).2⟩] := by
  obtain ⟨x0, x1, x2, x3, hs⟩ := fit_four l ⟨⟨#[114, 117, 110]⟩, 1⟩ ⟨⟨#[115, 105, 110, 99, 101]⟩, 5⟩ ⟨⟨#[100, 111, 110, 101]⟩, 1⟩ ⟨⟨#[97, 116]⟩, 5⟩
  obtain ⟨y0, y1, hi⟩ := fit_two l' ⟨⟨#[105, 110]⟩, 1⟩ ⟨⟨#[112, 116]⟩, 5⟩
  have hx := bool_fit y0
  have hk := time_fit x1
  have hw := time_fit now
  have e : tonF l l' now = ([(tonS (wrapF 1 x0) (wrapF 5 x1) (wrapF 1 x2) (wrapF 5 x3) (wrapF 1 y0) (wrapF 5 y1) (wrapF 5 now)).a, (tonS (wrapF 1 x0) (wrapF 5 x1) (wrapF 1 x2) (wrapF 5 x3) (wrapF 1 y0) (wrapF 5 y1) (wrapF 5 now)).b, (tonS (wrapF 1 x0) (wrapF 5 x1) (wrapF 1 x2) (wrapF 5 x3) (wrapF 1 y0) (wrapF 5 y1) (wrapF 5 now)).c, (tonS (wrapF 1 x0) (wrapF 5 x1) (wrapF 1 x2) (wrapF 5 x3) (wrapF 1 y0) (wrapF 5 y1) (wrapF 5 now)).d], [(tonS (wrapF 1 x0) (wrapF 5 x1) (wrapF 1 x2) (wrapF 5 x3) (wrapF 1 y0) (wrapF 5 y1) (wrapF 5 now)).q, (tonS (wrapF 1 x0) (wrapF 5 x1) (wrapF 1 x2) (wrapF 5 x3) (wrapF 1 y0) (wrapF 5 y1) (wrapF 5 now)).e]) := by
    unfold tonF
    rw [ton_st, ton_ins, hs, hi]
  rw [e]
  exact step_known b_ton.nm b_ton.ins b_ton.outs b_ton.st _ _ 2 4 2 65 69 (c4 0 0 0 0) (c4 (wrapF 1 x0) (wrapF 5 x1) (wrapF 1 x2) (wrapF 5 x3)) (c4 (tonS (wrapF 1 x0) (wrapF 5 x1) (wrapF 1 x2) (wrapF 5 x3) (wrapF 1 y0) (wrapF 5 y1) (wrapF 5 now)).a (tonS (wrapF 1 x0) (wrapF 5 x1) (wrapF 1 x2) (wrapF 5 x3) (wrapF 1 y0) (wrapF 5 y1) (wrapF 5 now)).b (tonS (wrapF 1 x0) (wrapF 5 x1) (wrapF 1 x2) (wrapF 5 x3) (wrapF 1 y0) (wrapF 5 y1) (wrapF 5 now)).c (tonS (wrapF 1 x0) (wrapF 5 x1) (wrapF 1 x2) (wrapF 5 x3) (wrapF 1 y0) (wrapF 5 y1) (wrapF 5 now)).d) 64 65 66
    [wrapF 1 x0, wrapF 5 x1, wrapF 1 x2, wrapF 5 x3] [wrapF 1 y0, wrapF 5 y1] _ _ _ m A n c l A' n' c' l' now w hm hr hr' hb hb' hn made_ton ton_ins ton_st (by kernel_rfl) (by kernel_rfl) rfl rfl (by decide) (by decide) hs hi rfl nm65L nm65S me65L me65S me65W caCL ca65 caCW
    (fun w1 Ks Os g gf h => load_clock h.out) (fun w1 Ks Os g gi h => ton_step h.out hx hw hk) (fun w1 Ks Os g h => words_clock h.out)

theorem tof_step {w0 w : World} {Ks : List Box} {Os : List Row} {g gi ci : Nat} {t : TypeId} {a b c d x pt now : Int} (h : Mem w0 w (⟨g, t, c4 a b c d⟩ :: Ks) (intR (some ⟨gi, 0, none⟩) ci [x, pt] :: Os)) (hx : x = 0 ∨ x = 1) (hn : 0 ≤ now ∧ now ≤ 4294967295) (hb : 0 ≤ b ∧ b ≤ 4294967295) :
    Calls Tryd.prog 68 #[.pointer (some ⟨g, 0, none⟩), .slice (some ⟨gi, 0, none⟩) 2 ci, .int .i64 now] w fun e w' => ∃ g', e = .returned (.slice (some ⟨g', 0, none⟩) 2 2) ∧ Mem w0 w' (⟨g, t, c4 (tofS a b c d x pt now).a (tofS a b c d x pt now).b (tofS a b c d x pt now).c (tofS a b c d x pt now).d⟩ :: Ks) (intR (some ⟨g', 0, none⟩) 2 [(tofS a b c d x pt now).q, (tofS a b c d x pt now).e] :: intR (some ⟨gi, 0, none⟩) ci [x, pt] :: Os) := by
  rcases hx with rfl | rfl
  · by_cases hc : c = 1
    · by_cases ha : a = 0
      · subst ha
        rw [show tofS 0 b c d 0 pt now = _ from (if_neg (by decide)).trans ((if_neg (not_not_intro hc)).trans (if_pos rfl))]
        exact tof_new h hn.1 hn.2 hc
      · rw [show tofS a b c d 0 pt now = _ from (if_neg (by decide)).trans ((if_neg (not_not_intro hc)).trans (if_neg ha))]
        exact tof_on h ha hn.1 hn.2 hb.1 hb.2 hc
    · rw [show tofS a b c d 0 pt now = _ from (if_neg (by decide)).trans (if_pos hc)]
      exact tof_done h hc
  · rw [show tofS a b c d 1 pt now = ⟨0, 0, 1, 0, 1, 0⟩ from if_pos rfl]
    exact tof_in h

theorem nm70L (g : Nat) (w : World) : Sem.run Tryd.prog (nilAhead 237 70 (.pointer (some ⟨g, 0, none⟩)) "plantwright/blocks.load") w = .ok (some false) w := by kernel_rfl
theorem nm70S (g : Nat) (w : World) : Sem.run Tryd.prog (nilAhead 237 70 (.pointer (some ⟨g, 0, none⟩)) "plantwright/blocks.step") w = .ok (some false) w := by kernel_rfl
theorem me70L (g : Nat) (w : World) : Sem.run Tryd.prog (method 237 70 (.pointer (some ⟨g, 0, none⟩)) "plantwright/blocks.load") w = .ok (64, .pointer (some ⟨g, 0, none⟩)) w := by kernel_rfl
theorem me70S (g : Nat) (w : World) : Sem.run Tryd.prog (method 237 70 (.pointer (some ⟨g, 0, none⟩)) "plantwright/blocks.step") w = .ok (68, .pointer (some ⟨g, 0, none⟩)) w := by kernel_rfl
theorem me70W (g : Nat) (w : World) : Sem.run Tryd.prog (method 237 70 (.pointer (some ⟨g, 0, none⟩)) "plantwright/blocks.words") w = .ok (66, .pointer (some ⟨g, 0, none⟩)) w := by kernel_rfl
theorem ca70 (x : Array Value) (w : World) : Sem.run Tryd.prog (callFunc 68 x) w = .ok (.enter 68 x) w := by kernel_rfl
theorem tof_st : pinsL b_tof.st = [⟨⟨#[114, 117, 110]⟩, 1⟩, ⟨⟨#[115, 105, 110, 99, 101]⟩, 5⟩, ⟨⟨#[111, 110]⟩, 1⟩, ⟨⟨#[97, 116]⟩, 5⟩] := by kernel_rfl
theorem tof_ins : pinsL b_tof.ins = [⟨⟨#[105, 110]⟩, 1⟩, ⟨⟨#[112, 116]⟩, 5⟩] := by kernel_rfl
/-- Step at tof -/
def tofF (l l' : List Int) (now : Int) : List Int × List Int :=
  match fitF l (pinsL b_tof.st), fitF l' (pinsL b_tof.ins) with
  | [a, b, c, d], [x, pt] => ([(tofS a b c d x pt (wrapF 5 now)).a, (tofS a b c d x pt (wrapF 5 now)).b, (tofS a b c d x pt (wrapF 5 now)).c, (tofS a b c d x pt (wrapF 5 now)).d], [(tofS a b c d x pt (wrapF 5 now)).q, (tofS a b c d x pt (wrapF 5 now)).e])
  | _, _ => ([], [])
theorem Step_tof (m : Int) (A : Option Addr) (n c : Nat) (l : List Int) (A' : Option Addr) (n' c' : Nat) (l' : List Int) (now : Int) (w : World) (hm : w.cell? ⟨0, 0, none⟩ = some (.int .i64 m)) (hr : Rd w 1 A n (ints l)) (hr' : Rd w 1 A' n' (ints l')) (hb : ∀ x ∈ l, I64 x) (hb' : ∀ x ∈ l', I64 x) (hn : I64 now) :
    Calls Tryd.prog 15 #[.string b_tof.nm, .slice A n c, .slice A' n' c', .int .i64 now] w fun e w' => ∃ g2 g3, e = .returned (.tuple #[.slice (some ⟨g2, 0, none⟩) 4 4, .slice (some ⟨g3, 0, none⟩) 2 2]) ∧ Mem w w' [] [⟨3, 1, some ⟨g2, 0, none⟩, 4, 4, ints (tofF l l' now).1⟩, ⟨3, 1, some ⟨g3, 0, none⟩, 2, 2, ints (tofF l l' now).2⟩] := by
  obtain ⟨x0, x1, x2, x3, hs⟩ := fit_four l ⟨⟨#[114, 117, 110]⟩, 1⟩ ⟨⟨#[115, 105, 110, 99, 101]⟩, 5⟩ ⟨⟨#[111, 110]⟩, 1⟩ ⟨⟨#[97, 116]⟩, 5⟩
  obtain ⟨y0, y1, hi⟩ := fit_two l' ⟨⟨#[105, 110]⟩, 1⟩ ⟨⟨#[112, 116]⟩, 5⟩
  have hx := bool_fit y0
  have hk := time_fit x1
  have hw := time_fit now
  have e : tofF l l' now = ([(tofS (wrapF 1 x0) (wrapF 5 x1) (wrapF 1 x2) (wrapF 5 x3) (wrapF 1 y0) (wrapF 5 y1) (wrapF 5 now)).a, (tofS (wrapF 1 x0) (wrapF 5 x1) (wrapF 1 x2) (wrapF 5 x3) (wrapF 1 y0) (wrapF 5 y1) (wrapF 5 now)).b, (tofS (wrapF 1 x0) (wrapF 5 x1) (wrapF 1 x2) (wrapF 5 x3) (wrapF 1 y0) (wrapF 5 y1) (wrapF 5 now)).c, (tofS (wrapF 1 x0) (wrapF 5 x1) (wrapF 1 x2) (wrapF 5 x3) (wrapF 1 y0) (wrapF 5 y1) (wrapF 5 now)).d], [(tofS (wrapF 1 x0) (wrapF 5 x1) (wrapF 1 x2) (wrapF 5 x3) (wrapF 1 y0) (wrapF 5 y1) (wrapF 5 now)).q, (tofS (wrapF 1 x0) (wrapF 5 x1) (wrapF 1 x2) (wrapF 5 x3) (wrapF 1 y0) (wrapF 5 y1) (wrapF 5 now)).e]) := by
    unfold tofF
    rw [tof_st, tof_ins, hs, hi]
  rw [e]
  exact step_known b_tof.nm b_tof.ins b_tof.outs b_tof.st _ _ 2 4 2 70 71 (c4 0 0 0 0) (c4 (wrapF 1 x0) (wrapF 5 x1) (wrapF 1 x2) (wrapF 5 x3)) (c4 (tofS (wrapF 1 x0) (wrapF 5 x1) (wrapF 1 x2) (wrapF 5 x3) (wrapF 1 y0) (wrapF 5 y1) (wrapF 5 now)).a (tofS (wrapF 1 x0) (wrapF 5 x1) (wrapF 1 x2) (wrapF 5 x3) (wrapF 1 y0) (wrapF 5 y1) (wrapF 5 now)).b (tofS (wrapF 1 x0) (wrapF 5 x1) (wrapF 1 x2) (wrapF 5 x3) (wrapF 1 y0) (wrapF 5 y1) (wrapF 5 now)).c (tofS (wrapF 1 x0) (wrapF 5 x1) (wrapF 1 x2) (wrapF 5 x3) (wrapF 1 y0) (wrapF 5 y1) (wrapF 5 now)).d) 64 68 66
    [wrapF 1 x0, wrapF 5 x1, wrapF 1 x2, wrapF 5 x3] [wrapF 1 y0, wrapF 5 y1] _ _ _ m A n c l A' n' c' l' now w hm hr hr' hb hb' hn made_tof tof_ins tof_st (by kernel_rfl) (by kernel_rfl) rfl rfl (by decide) (by decide) hs hi rfl nm70L nm70S me70L me70S me70W caCL ca70 caCW
    (fun w1 Ks Os g gf h => load_clock h.out) (fun w1 Ks Os g gi h => tof_step h.out hx hw hk) (fun w1 Ks Os g h => words_clock h.out)

end Go.Proofs.YthgjjclmepfbpaaDoor.Blk
