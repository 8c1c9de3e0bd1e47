/-
  The blocks' steps, plain: how long what comes out is, in which bounds it lies, and that a clock that is ahead makes no difference. No conditions.
-/
import Derived.Test.YthgjjclmepfbpaaDoorBlkZ
namespace Go.Proofs.YthgjjclmepfbpaaDoor.Blk
open Go.RowKit Go.Proofs.YthgjjclmepfbpaaDoor.W Go.Proofs.YthgjjclmepfbpaaDoor.Ints Go.Proofs.YthgjjclmepfbpaaDoor.Cell Go.Proofs.YthgjjclmepfbpaaDoor.Num

/-- what a block's step is like: lengths, bounds -/
def Well (b : BT) (B : Body) (N3 NO : Nat) : Prop := ∀ (l l' : List Int) (now : Int), (stepF b B l l' now).1.length = N3 ∧ (stepF b B l l' now).2.length = NO ∧ ∀ x ∈ (stepF b B l l' now).1, I64 x
/-- a clock that is ahead makes no difference -/
def Shifts (b : BT) (B : Body) : Prop := ∀ D : Int, ∃ R : List Int → List Int → Prop, R (List.replicate (pinsL b.st).length 0) (List.replicate (pinsL b.st).length 0) ∧ ∀ s t l' n1 n2, R s t → (∃ q : Int, n2 = n1 + D + q * 18446744073709551616) → R (stepF b B s l' n1).1 (stepF b B t l' n2).1 ∧ (stepF b B s l' n1).2 = (stepF b B t l' n2).2
theorem far_range (now b pt : Int) (h : 0 ≤ pt ∧ pt ≤ 4294967295) : 0 ≤ farF now b pt ∧ farF now b pt ≤ 4294967295 := by
  have := time_fit (now - b)
  unfold farF
  omega
theorem i64_bool {x : Int} (h : x = 0 ∨ x = 1) : I64 x := by unfold I64; omega
theorem i64_int {x : Int} (h : -32768 ≤ x ∧ x ≤ 32767) : I64 x := by unfold I64; omega
theorem i64_time {x : Int} (h : 0 ≤ x ∧ x ≤ 4294967295) : I64 x := by unfold I64; omega
/-- a timer's words -/
def Tm.ok (t : Tm) : Prop := (t.a = 0 ∨ t.a = 1) ∧ (0 ≤ t.b ∧ t.b ≤ 4294967295) ∧ (t.c = 0 ∨ t.c = 1) ∧ (0 ≤ t.d ∧ t.d ≤ 4294967295)
theorem two_bool (p : Prop) [Decidable p] : ((if p then (1 : Int) else 0) = 0 ∨ (if p then (1 : Int) else 0) = 1) ∧ ((if p then (0 : Int) else 1) = 0 ∨ (if p then (0 : Int) else 1) = 1) := by
  by_cases h : p
  · simp [h]
  · simp [h]
theorem pick_time (p : Prop) [Decidable p] {b : Int} (h : 0 ≤ b ∧ b ≤ 4294967295) : 0 ≤ (if p then 0 else b) ∧ (if p then 0 else b) ≤ 4294967295 := by
  by_cases h' : p
  · simp [h']
  · simp [h', h]
theorem pick_bool (p : Prop) [Decidable p] {b : Int} (h : b = 0 ∨ b = 1) : (if p then 0 else b) = 0 ∨ (if p then 0 else b) = 1 := by
  by_cases h' : p
  · simp [h']
  · simp [h', h]
section
variable {a b c d x pt now : Int} (ha : a = 0 ∨ a = 1) (hb : 0 ≤ b ∧ b ≤ 4294967295) (hc : c = 0 ∨ c = 1) (hd : 0 ≤ d ∧ d ≤ 4294967295) (hpt : 0 ≤ pt ∧ pt ≤ 4294967295) (hn : 0 ≤ now ∧ now ≤ 4294967295)
include ha hb hc hd hpt hn
theorem ton_ok : (tonS a b c d x pt now).ok := by
  have f1 := far_range now now pt hpt
  have f2 := far_range now b pt hpt
  unfold tonS
  split
  · exact ⟨.inl rfl, by decide, .inl rfl, by decide⟩
  · split
    · exact ⟨.inr rfl, hn, (two_bool _).1, f1⟩
    · split
      · exact ⟨ha, hb, (two_bool _).1, f2⟩
      · exact ⟨ha, hb, hc, hd⟩
theorem tof_ok : (tofS a b c d x pt now).ok := by
  have f1 := far_range now now pt hpt
  have f2 := far_range now b pt hpt
  unfold tofS
  split
  · exact ⟨.inl rfl, by decide, .inr rfl, by decide⟩
  · split
    · exact ⟨ha, hb, hc, hd⟩
    · split
      · exact ⟨(two_bool _).2, pick_time _ hn, (two_bool _).2, f1⟩
      · exact ⟨pick_bool _ ha, pick_time _ hb, (two_bool _).2, f2⟩
end
theorem tp_ok {a b c d x pt now : Int} (hb : 0 ≤ b ∧ b ≤ 4294967295) (hd : 0 ≤ d ∧ d ≤ 4294967295) (hpt : 0 ≤ pt ∧ pt ≤ 4294967295) (hn : 0 ≤ now ∧ now ≤ 4294967295) : (tpS a b c d x pt now).ok := by
  have f1 := far_range now now pt hpt
  have f2 := far_range now b pt hpt
  unfold tpS
  split
  · split
    · split
      · exact ⟨(two_bool _).2, pick_time _ hn, .inr rfl, f1⟩
      · exact ⟨.inl rfl, hb, .inr rfl, hd⟩
    · exact ⟨(two_bool _).2, pick_time _ hb, .inr rfl, f2⟩
  · split
    · exact ⟨.inl rfl, hb, .inl rfl, Int.le_refl 0, (by decide : (0 : Int) ≤ 4294967295)⟩
    · exact ⟨(two_bool _).2, pick_time _ hb, .inl rfl, f2⟩
/-- two timers whose clocks are D apart -/
def TmR (D : Int) (s t : List Int) : Prop := ∃ a b c d b2, s = [a, b, c, d] ∧ t = [a, b2, c, d] ∧ (a = 0 ∨ a = 1) ∧ (0 ≤ b ∧ b ≤ 4294967295) ∧ (0 ≤ b2 ∧ b2 ≤ 4294967295) ∧ (c = 0 ∨ c = 1) ∧ (0 ≤ d ∧ d ≤ 4294967295) ∧ (a = 0 ∨ b2 = (b + D) % 4294967296)
theorem far_shift {n1 n2 b b2 D pt : Int} (hn : n2 = (n1 + D) % 4294967296) (hb : b2 = (b + D) % 4294967296) : farF n2 b2 pt = farF n1 b pt := by
  have e : wrapF 5 (n2 - b2) = wrapF 5 (n1 - b) := by
    unfold wrapF
    rw [if_neg (by decide), if_neg (by decide), if_neg (by decide), if_neg (by decide), if_pos rfl, if_neg (by decide), if_neg (by decide), if_neg (by decide), if_neg (by decide), if_pos rfl]
    omega
  unfold farF
  rw [e]
theorem far_self (n1 n2 pt : Int) : farF n2 n2 pt = farF n1 n1 pt := by
  unfold farF
  rw [Int.sub_self, Int.sub_self]
/-- two timers' words alike, but for since -/
def TmQ (D : Int) (s t : Tm) : Prop := s.a = t.a ∧ s.c = t.c ∧ s.d = t.d ∧ s.q = t.q ∧ s.e = t.e ∧ (s.a = 0 ∨ t.b = (s.b + D) % 4294967296)
section
variable {D a b b2 c d x pt n1 n2 : Int} (ha : a = 0 ∨ b2 = (b + D) % 4294967296) (hn : n2 = (n1 + D) % 4294967296)
include ha hn
theorem ton_shift : TmQ D (tonS a b c d x pt n1) (tonS a b2 c d x pt n2) := by
  unfold tonS
  split
  · exact ⟨rfl, rfl, rfl, rfl, rfl, .inl rfl⟩
  · split
    · rw [far_self n1 n2]
      exact ⟨rfl, rfl, rfl, rfl, rfl, .inr hn⟩
    · rename_i h0
      have hb := ha.resolve_left h0
      split
      · rw [far_shift hn hb]
        exact ⟨rfl, rfl, rfl, rfl, rfl, .inr hb⟩
      · exact ⟨rfl, rfl, rfl, rfl, rfl, .inr hb⟩
theorem tof_shift : TmQ D (tofS a b c d x pt n1) (tofS a b2 c d x pt n2) := by
  unfold tofS
  split
  · exact ⟨rfl, rfl, rfl, rfl, rfl, .inl rfl⟩
  · split
    · exact ⟨rfl, rfl, rfl, rfl, rfl, ha⟩
    · split
      · rw [far_self n1 n2]
        refine ⟨rfl, rfl, rfl, rfl, rfl, ?_⟩
        by_cases h : (farF n1 n1 pt == pt) = true
        · simp [h]
        · simp [h, hn]
      · rename_i h0
        have hb := ha.resolve_left h0
        rw [far_shift hn hb]
        refine ⟨rfl, rfl, rfl, rfl, rfl, ?_⟩
        by_cases h : (farF n1 b pt == pt) = true
        · simp [h]
        · simp [h, hb]
theorem tp_shift : TmQ D (tpS a b c d x pt n1) (tpS a b2 c d x pt n2) := by
  unfold tpS
  split
  · split
    · split
      · rw [far_self n1 n2]
        refine ⟨rfl, rfl, rfl, rfl, rfl, ?_⟩
        by_cases h : (farF n1 n1 pt == pt) = true
        · simp [h]
        · simp [h, hn]
      · exact ⟨rfl, rfl, rfl, rfl, rfl, .inl rfl⟩
    · rename_i h0
      have hb := ha.resolve_left h0
      rw [far_shift hn hb]
      refine ⟨rfl, rfl, rfl, rfl, rfl, ?_⟩
      by_cases h : (farF n1 b pt == pt) = true
      · simp [h]
      · simp [h, hb]
  · split
    · exact ⟨rfl, rfl, rfl, rfl, rfl, .inl rfl⟩
    · rename_i h0
      have hb := ha.resolve_left h0
      rw [far_shift hn hb]
      refine ⟨rfl, rfl, rfl, rfl, rfl, ?_⟩
      by_cases h : (farF n1 b pt == pt) = true
      · simp [h]
      · simp [h, hb]
end
theorem w5_id {x : Int} (h : 0 ≤ x ∧ x ≤ 4294967295) : wrapF 5 x = x := by
  unfold wrapF
  rw [if_neg (by decide), if_neg (by decide), if_neg (by decide), if_neg (by decide), if_pos rfl]
  omega
theorem w1_same {x : Int} (h : x = 0 ∨ x = 1) : wrapF 1 x = x := by
  unfold wrapF
  rw [if_pos rfl]
  omega
theorem w5_shift {n1 n2 D : Int} (h : ∃ q : Int, n2 = n1 + D + q * 18446744073709551616) : wrapF 5 n2 = (wrapF 5 n1 + D) % 4294967296 := by
  obtain ⟨q, rfl⟩ := h
  unfold wrapF
  rw [if_neg (by decide), if_neg (by decide), if_neg (by decide), if_neg (by decide), if_pos rfl, if_neg (by decide), if_neg (by decide), if_neg (by decide), if_neg (by decide), if_pos rfl]
  omega
theorem mem_four {a b c d x : Int} (h : x ∈ [a, b, c, d]) : x = a ∨ x = b ∨ x = c ∨ x = d := by simpa using h

theorem ton_well : Well b_ton tonB 4 2 := by
  intro l l' now
  obtain ⟨x0, x1, x2, x3, hs⟩ := fit_four l ⟨⟨#[114, 117, 110]⟩, 1⟩ ⟨⟨#[115, 105, 110, 99, 101]⟩, 5⟩ ⟨⟨#[100, 111, 110, 101]⟩, 1⟩ ⟨⟨#[97, 116]⟩, 5⟩
  obtain ⟨y0, y1, hi⟩ := fit_two l' ⟨⟨#[105, 110]⟩, 1⟩ ⟨⟨#[112, 116]⟩, 5⟩
  have hok := ton_ok (bool_fit x0) (time_fit x1) (bool_fit x2) (time_fit x3) (x := wrapF 1 y0) (time_fit y1) (time_fit now)
  unfold stepF tonB
  rw [ton_st, ton_ins, hs, hi]
  refine ⟨rfl, rfl, fun x hx => ?_⟩
  rcases mem_four hx with rfl | rfl | rfl | rfl
  · exact i64_bool hok.1
  · exact i64_time hok.2.1
  · exact i64_bool hok.2.2.1
  · exact i64_time hok.2.2.2
theorem ton_shifts : Shifts b_ton tonB := by
  intro D
  refine ⟨TmR D, ?_, ?_⟩
  · rw [ton_st]
    exact ⟨0, 0, 0, 0, 0, rfl, rfl, .inl rfl, by omega, by omega, .inl rfl, by omega, .inl rfl⟩
  · rintro s t l' n1 n2 ⟨a, b, c, d, b2, rfl, rfl, ha, hb, hb2, hc, hd, hr⟩ hn
    obtain ⟨y0, y1, hi⟩ := fit_two l' ⟨⟨#[105, 110]⟩, 1⟩ ⟨⟨#[112, 116]⟩, 5⟩
    have fs : ∀ b, (0 ≤ b ∧ b ≤ 4294967295) → fitF [a, b, c, d] (pinsL b_ton.st) = [a, b, c, d] := fun b hb => by
      rw [ton_st]
      simp [fitF, rawF, w1_same ha, w1_same hc, w5_id hb, w5_id hd]
    have hS := ton_shift (c := c) (d := d) (x := wrapF 1 y0) (pt := wrapF 5 y1) hr (w5_shift hn)
    have ok1 := ton_ok ha hb hc hd (x := wrapF 1 y0) (time_fit y1) (time_fit n1)
    have ok2 := ton_ok ha hb2 hc hd (x := wrapF 1 y0) (time_fit y1) (time_fit n2)
    unfold stepF
    rw [fs b hb, fs b2 hb2, ton_ins, hi]
    unfold tonB
    dsimp only
    obtain ⟨q1, q2, q3, q4, q5, q6⟩ := hS
    refine ⟨⟨_, _, _, _, _, rfl, by rw [q1, q2, q3], ok1.1, ok1.2.1, ok2.2.1, ok1.2.2.1, ok1.2.2.2, q6⟩, by rw [q4, q5]⟩

theorem tof_well : Well b_tof tofB 4 2 := by
  intro l l' now
  obtain ⟨x0, x1, x2, x3, hs⟩ := fit_four l ⟨⟨#[114, 117, 110]⟩, 1⟩ ⟨⟨#[115, 105, 110, 99, 101]⟩, 5⟩ ⟨⟨#[111, 110]⟩, 1⟩ ⟨⟨#[97, 116]⟩, 5⟩
  obtain ⟨y0, y1, hi⟩ := fit_two l' ⟨⟨#[105, 110]⟩, 1⟩ ⟨⟨#[112, 116]⟩, 5⟩
  have hok := tof_ok (bool_fit x0) (time_fit x1) (bool_fit x2) (time_fit x3) (x := wrapF 1 y0) (time_fit y1) (time_fit now)
  unfold stepF tofB
  rw [tof_st, tof_ins, hs, hi]
  refine ⟨rfl, rfl, fun x hx => ?_⟩
  rcases mem_four hx with rfl | rfl | rfl | rfl
  · exact i64_bool hok.1
  · exact i64_time hok.2.1
  · exact i64_bool hok.2.2.1
  · exact i64_time hok.2.2.2
theorem tof_shifts : Shifts b_tof tofB := by
  intro D
  refine ⟨TmR D, ?_, ?_⟩
  · rw [tof_st]
    exact ⟨0, 0, 0, 0, 0, rfl, rfl, .inl rfl, by omega, by omega, .inl rfl, by omega, .inl rfl⟩
  · rintro s t l' n1 n2 ⟨a, b, c, d, b2, rfl, rfl, ha, hb, hb2, hc, hd, hr⟩ hn
    obtain ⟨y0, y1, hi⟩ := fit_two l' ⟨⟨#[105, 110]⟩, 1⟩ ⟨⟨#[112, 116]⟩, 5⟩
    have fs : ∀ b, (0 ≤ b ∧ b ≤ 4294967295) → fitF [a, b, c, d] (pinsL b_tof.st) = [a, b, c, d] := fun b hb => by
      rw [tof_st]
      simp [fitF, rawF, w1_same ha, w1_same hc, w5_id hb, w5_id hd]
    have hS := tof_shift (c := c) (d := d) (x := wrapF 1 y0) (pt := wrapF 5 y1) hr (w5_shift hn)
    have ok1 := tof_ok ha hb hc hd (x := wrapF 1 y0) (time_fit y1) (time_fit n1)
    have ok2 := tof_ok ha hb2 hc hd (x := wrapF 1 y0) (time_fit y1) (time_fit n2)
    unfold stepF
    rw [fs b hb, fs b2 hb2, tof_ins, hi]
    unfold tofB
    dsimp only
    obtain ⟨q1, q2, q3, q4, q5, q6⟩ := hS
    refine ⟨⟨_, _, _, _, _, rfl, by rw [q1, q2, q3], ok1.1, ok1.2.1, ok2.2.1, ok1.2.2.1, ok1.2.2.2, q6⟩, by rw [q4, q5]⟩

theorem tp_well : Well b_tp tpB 4 2 := by
  intro l l' now
  obtain ⟨x0, x1, x2, x3, hs⟩ := fit_four l ⟨⟨#[114, 117, 110]⟩, 1⟩ ⟨⟨#[115, 105, 110, 99, 101]⟩, 5⟩ ⟨⟨#[112, 114, 101, 118]⟩, 1⟩ ⟨⟨#[97, 116]⟩, 5⟩
  obtain ⟨y0, y1, hi⟩ := fit_two l' ⟨⟨#[105, 110]⟩, 1⟩ ⟨⟨#[112, 116]⟩, 5⟩
  have hok := tp_ok (a := wrapF 1 x0) (c := wrapF 1 x2) (time_fit x1) (time_fit x3) (x := wrapF 1 y0) (time_fit y1) (time_fit now)
  unfold stepF tpB
  rw [tp_st, tp_ins, hs, hi]
  refine ⟨rfl, rfl, fun x hx => ?_⟩
  rcases mem_four hx with rfl | rfl | rfl | rfl
  · exact i64_bool hok.1
  · exact i64_time hok.2.1
  · exact i64_bool hok.2.2.1
  · exact i64_time hok.2.2.2
theorem tp_shifts : Shifts b_tp tpB := by
  intro D
  refine ⟨TmR D, ?_, ?_⟩
  · rw [tp_st]
    exact ⟨0, 0, 0, 0, 0, rfl, rfl, .inl rfl, by omega, by omega, .inl rfl, by omega, .inl rfl⟩
  · rintro s t l' n1 n2 ⟨a, b, c, d, b2, rfl, rfl, ha, hb, hb2, hc, hd, hr⟩ hn
    obtain ⟨y0, y1, hi⟩ := fit_two l' ⟨⟨#[105, 110]⟩, 1⟩ ⟨⟨#[112, 116]⟩, 5⟩
    have fs : ∀ b, (0 ≤ b ∧ b ≤ 4294967295) → fitF [a, b, c, d] (pinsL b_tp.st) = [a, b, c, d] := fun b hb => by
      rw [tp_st]
      simp [fitF, rawF, w1_same ha, w1_same hc, w5_id hb, w5_id hd]
    have hS := tp_shift (c := c) (d := d) (x := wrapF 1 y0) (pt := wrapF 5 y1) hr (w5_shift hn)
    have ok1 := tp_ok (a := a) (c := c) hb hd (x := wrapF 1 y0) (time_fit y1) (time_fit n1)
    have ok2 := tp_ok (a := a) (c := c) hb2 hd (x := wrapF 1 y0) (time_fit y1) (time_fit n2)
    unfold stepF
    rw [fs b hb, fs b2 hb2, tp_ins, hi]
    unfold tpB
    dsimp only
    obtain ⟨q1, q2, q3, q4, q5, q6⟩ := hS
    refine ⟨⟨_, _, _, _, _, rfl, by rw [q1, q2, q3], ok1.1, ok1.2.1, ok2.2.1, ok1.2.2.1, ok1.2.2.2, q6⟩, by rw [q4, q5]⟩

theorem ctu_rng {p n x r : Int} (h : -32768 ≤ n ∧ n ≤ 32767) : -32768 ≤ ctuN p n x r ∧ ctuN p n x r ≤ 32767 := by
  unfold ctuN
  split
  · omega
  · split <;> omega
theorem ctd_rng {p n x r v : Int} (h : -32768 ≤ n ∧ n ≤ 32767) (hv : -32768 ≤ v ∧ v ≤ 32767) : -32768 ≤ ctdN p n x r v ∧ ctdN p n x r v ≤ 32767 := by
  unfold ctdN
  split
  · omega
  · split <;> omega
theorem ud_rng {a b n x y r l v : Int} (h : -32768 ≤ n ∧ n ≤ 32767) (hv : -32768 ≤ v ∧ v ≤ 32767) : -32768 ≤ udN a b n x y r l v ∧ udN a b n x y r l v ≤ 32767 := by
  unfold udN
  split
  · omega
  · split
    · omega
    · split
      · omega
      · split <;> omega
theorem ramp_rng {a x y : Int} (h : -32768 ≤ a ∧ a ≤ 32767) (hx : -32768 ≤ x ∧ x ≤ 32767) : -32768 ≤ rampF a x y ∧ rampF a x y ≤ 32767 := by
  unfold rampF
  omega
theorem hyst_rng {a x y z : Int} (h : a = 0 ∨ a = 1) : hystF a x y z = 0 ∨ hystF a x y z = 1 := by
  unfold hystF
  split
  · omega
  · split
    · omega
    · exact h
theorem sr_rng (a x r : Int) : srF a x r = 0 ∨ srF a x r = 1 := by
  unfold srF
  split <;> omega
theorem rs_rng (a x r : Int) : rsF a x r = 0 ∨ rsF a x r = 1 := by
  unfold rsF
  split <;> omega

theorem ctu_well : Well b_ctu ctuB 2 2 := by
  intro l l' now
  obtain ⟨x0, x1, hs⟩ := fit_two l ⟨⟨#[112, 114, 101, 118]⟩, 1⟩ ⟨⟨#[99, 111, 117, 110, 116]⟩, 2⟩
  obtain ⟨y0, y1, y2, hi⟩ := fit_three l' ⟨⟨#[99, 117]⟩, 1⟩ ⟨⟨#[114]⟩, 1⟩ ⟨⟨#[112, 118]⟩, 2⟩
  unfold stepF ctuB
  rw [ctu_st, ctu_ins, hs, hi]
  refine ⟨rfl, rfl, fun x hx => ?_⟩
  simp only [List.mem_cons, List.not_mem_nil, or_false] at hx
  rcases hx with rfl | rfl
  · exact i64_bool (bool_fit y0)
  · exact i64_int (ctu_rng (int_fit x1))
theorem ctu_shifts : Shifts b_ctu ctuB := by
  intro D
  refine ⟨Eq, rfl, ?_⟩
  rintro s _ l' n1 n2 rfl _
  have e : stepF b_ctu ctuB s l' n1 = stepF b_ctu ctuB s l' n2 := by
    unfold stepF ctuB
    rfl
  rw [e]
  exact ⟨rfl, rfl⟩
theorem ctd_well : Well b_ctd ctdB 2 2 := by
  intro l l' now
  obtain ⟨x0, x1, hs⟩ := fit_two l ⟨⟨#[112, 114, 101, 118]⟩, 1⟩ ⟨⟨#[99, 111, 117, 110, 116]⟩, 2⟩
  obtain ⟨y0, y1, y2, hi⟩ := fit_three l' ⟨⟨#[99, 100]⟩, 1⟩ ⟨⟨#[108, 100]⟩, 1⟩ ⟨⟨#[112, 118]⟩, 2⟩
  unfold stepF ctdB
  rw [ctd_st, ctd_ins, hs, hi]
  refine ⟨rfl, rfl, fun x hx => ?_⟩
  simp only [List.mem_cons, List.not_mem_nil, or_false] at hx
  rcases hx with rfl | rfl
  · exact i64_bool (bool_fit y0)
  · exact i64_int (ctd_rng (int_fit x1) (int_fit y2))
theorem ctd_shifts : Shifts b_ctd ctdB := by
  intro D
  refine ⟨Eq, rfl, ?_⟩
  rintro s _ l' n1 n2 rfl _
  have e : stepF b_ctd ctdB s l' n1 = stepF b_ctd ctdB s l' n2 := by
    unfold stepF ctdB
    rfl
  rw [e]
  exact ⟨rfl, rfl⟩
theorem ctud_well : Well b_ctud ctudB 3 3 := by
  intro l l' now
  obtain ⟨x0, x1, x2, hs⟩ := fit_three l ⟨⟨#[117, 112]⟩, 1⟩ ⟨⟨#[100, 111, 119, 110]⟩, 1⟩ ⟨⟨#[99, 111, 117, 110, 116]⟩, 2⟩
  obtain ⟨y0, y1, y2, y3, y4, hi⟩ := fit_five l' ⟨⟨#[99, 117]⟩, 1⟩ ⟨⟨#[99, 100]⟩, 1⟩ ⟨⟨#[114]⟩, 1⟩ ⟨⟨#[108, 100]⟩, 1⟩ ⟨⟨#[112, 118]⟩, 2⟩
  unfold stepF ctudB
  rw [ctud_st, ctud_ins, hs, hi]
  refine ⟨rfl, rfl, fun x hx => ?_⟩
  simp only [List.mem_cons, List.not_mem_nil, or_false] at hx
  rcases hx with rfl | rfl | rfl
  · exact i64_bool (bool_fit y0)
  · exact i64_bool (bool_fit y1)
  · exact i64_int (ud_rng (int_fit x2) (int_fit y4))
theorem ctud_shifts : Shifts b_ctud ctudB := by
  intro D
  refine ⟨Eq, rfl, ?_⟩
  rintro s _ l' n1 n2 rfl _
  have e : stepF b_ctud ctudB s l' n1 = stepF b_ctud ctudB s l' n2 := by
    unfold stepF ctudB
    rfl
  rw [e]
  exact ⟨rfl, rfl⟩
theorem rtrig_well : Well b_rtrig rtrigB 1 1 := by
  intro l l' now
  obtain ⟨x0, hs⟩ := fit_one l ⟨⟨#[112, 114, 101, 118]⟩, 1⟩
  obtain ⟨y0, hi⟩ := fit_one l' ⟨⟨#[99, 108, 107]⟩, 1⟩
  unfold stepF rtrigB
  rw [rtrig_st, rtrig_ins, hs, hi]
  refine ⟨rfl, rfl, fun x hx => ?_⟩
  simp only [List.mem_cons, List.not_mem_nil, or_false] at hx
  subst hx
  exact i64_bool (bool_fit y0)
theorem rtrig_shifts : Shifts b_rtrig rtrigB := by
  intro D
  refine ⟨Eq, rfl, ?_⟩
  rintro s _ l' n1 n2 rfl _
  have e : stepF b_rtrig rtrigB s l' n1 = stepF b_rtrig rtrigB s l' n2 := by
    unfold stepF rtrigB
    rfl
  rw [e]
  exact ⟨rfl, rfl⟩
theorem ftrig_well : Well b_ftrig ftrigB 1 1 := by
  intro l l' now
  obtain ⟨x0, hs⟩ := fit_one l ⟨⟨#[112, 114, 101, 118]⟩, 1⟩
  obtain ⟨y0, hi⟩ := fit_one l' ⟨⟨#[99, 108, 107]⟩, 1⟩
  unfold stepF ftrigB
  rw [ftrig_st, ftrig_ins, hs, hi]
  refine ⟨rfl, rfl, fun x hx => ?_⟩
  simp only [List.mem_cons, List.not_mem_nil, or_false] at hx
  subst hx
  exact i64_bool (bool_fit y0)
theorem ftrig_shifts : Shifts b_ftrig ftrigB := by
  intro D
  refine ⟨Eq, rfl, ?_⟩
  rintro s _ l' n1 n2 rfl _
  have e : stepF b_ftrig ftrigB s l' n1 = stepF b_ftrig ftrigB s l' n2 := by
    unfold stepF ftrigB
    rfl
  rw [e]
  exact ⟨rfl, rfl⟩
theorem sr_well : Well b_sr srB 1 1 := by
  intro l l' now
  obtain ⟨x0, hs⟩ := fit_one l ⟨⟨#[111, 110]⟩, 1⟩
  obtain ⟨y0, y1, hi⟩ := fit_two l' ⟨⟨#[115, 49]⟩, 1⟩ ⟨⟨#[114]⟩, 1⟩
  unfold stepF srB
  rw [sr_st, sr_ins, hs, hi]
  refine ⟨rfl, rfl, fun x hx => ?_⟩
  simp only [List.mem_cons, List.not_mem_nil, or_false] at hx
  subst hx
  exact i64_bool (sr_rng _ _ _)
theorem sr_shifts : Shifts b_sr srB := by
  intro D
  refine ⟨Eq, rfl, ?_⟩
  rintro s _ l' n1 n2 rfl _
  have e : stepF b_sr srB s l' n1 = stepF b_sr srB s l' n2 := by
    unfold stepF srB
    rfl
  rw [e]
  exact ⟨rfl, rfl⟩
theorem rs_well : Well b_rs rsB 1 1 := by
  intro l l' now
  obtain ⟨x0, hs⟩ := fit_one l ⟨⟨#[111, 110]⟩, 1⟩
  obtain ⟨y0, y1, hi⟩ := fit_two l' ⟨⟨#[115]⟩, 1⟩ ⟨⟨#[114, 49]⟩, 1⟩
  unfold stepF rsB
  rw [rs_st, rs_ins, hs, hi]
  refine ⟨rfl, rfl, fun x hx => ?_⟩
  simp only [List.mem_cons, List.not_mem_nil, or_false] at hx
  subst hx
  exact i64_bool (rs_rng _ _ _)
theorem rs_shifts : Shifts b_rs rsB := by
  intro D
  refine ⟨Eq, rfl, ?_⟩
  rintro s _ l' n1 n2 rfl _
  have e : stepF b_rs rsB s l' n1 = stepF b_rs rsB s l' n2 := by
    unfold stepF rsB
    rfl
  rw [e]
  exact ⟨rfl, rfl⟩
theorem ramp_well : Well b_ramp rampB 1 1 := by
  intro l l' now
  obtain ⟨x0, hs⟩ := fit_one l ⟨⟨#[97, 116]⟩, 2⟩
  obtain ⟨y0, y1, hi⟩ := fit_two l' ⟨⟨#[120]⟩, 2⟩ ⟨⟨#[115, 116, 101, 112]⟩, 2⟩
  unfold stepF rampB
  rw [ramp_st, ramp_ins, hs, hi]
  refine ⟨rfl, rfl, fun x hx => ?_⟩
  simp only [List.mem_cons, List.not_mem_nil, or_false] at hx
  subst hx
  exact i64_int (ramp_rng (int_fit x0) (int_fit y0))
theorem ramp_shifts : Shifts b_ramp rampB := by
  intro D
  refine ⟨Eq, rfl, ?_⟩
  rintro s _ l' n1 n2 rfl _
  have e : stepF b_ramp rampB s l' n1 = stepF b_ramp rampB s l' n2 := by
    unfold stepF rampB
    rfl
  rw [e]
  exact ⟨rfl, rfl⟩
theorem hyst_well : Well b_hyst hystB 1 1 := by
  intro l l' now
  obtain ⟨x0, hs⟩ := fit_one l ⟨⟨#[111, 110]⟩, 1⟩
  obtain ⟨y0, y1, y2, hi⟩ := fit_three l' ⟨⟨#[120]⟩, 2⟩ ⟨⟨#[104, 105]⟩, 2⟩ ⟨⟨#[108, 111]⟩, 2⟩
  unfold stepF hystB
  rw [hyst_st, hyst_ins, hs, hi]
  refine ⟨rfl, rfl, fun x hx => ?_⟩
  simp only [List.mem_cons, List.not_mem_nil, or_false] at hx
  subst hx
  exact i64_bool (hyst_rng (bool_fit x0))
theorem hyst_shifts : Shifts b_hyst hystB := by
  intro D
  refine ⟨Eq, rfl, ?_⟩
  rintro s _ l' n1 n2 rfl _
  have e : stepF b_hyst hystB s l' n1 = stepF b_hyst hystB s l' n2 := by
    unfold stepF hystB
    rfl
  rw [e]
  exact ⟨rfl, rfl⟩
end Go.Proofs.YthgjjclmepfbpaaDoor.Blk
