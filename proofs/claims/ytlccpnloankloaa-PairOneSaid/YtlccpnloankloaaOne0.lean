/-
  PairOne, plainly: two sides, the beats that were sent, and what holds of them whatever comes. No program in sight.
-/
import Derived.Test.YtlccpnloankloaaW
namespace Go.Proofs.Ytlccpnloankloaa.Pair

/-- a side: its image is that of its cycle -/
structure SS where
  act : Bool
  term : Nat
  cyc : Nat
  sil : Int
structure BB where
  frm : Nat
  term : Nat
  cyc : Nat
def oldQ (k : Nat) (s : SS) (b : BB) : Prop := b.frm = k ∨ b.term < s.term ∨ (b.term = s.term ∧ (s.act = true ∧ k = 0 ∨ s.act = false ∧ b.cyc < s.cyc))
instance (k : Nat) (s : SS) (b : BB) : Decidable (oldQ k s b) := by unfold oldQ; infer_instance
def hearQ (k : Nat) (s : SS) (b : BB) : SS := if oldQ k s b then s else ⟨false, b.term, b.cyc, 0⟩
def waitQ (p : Int) (s : SS) : SS := if s.act = true then s else if s.sil + 1 < p then ⟨s.act, s.term, s.cyc, s.sil + 1⟩ else ⟨true, s.term + 1, s.cyc, 0⟩
def doneQ (s : SS) : SS := ⟨s.act, s.term, s.cyc + 1, s.sil⟩
def sayQ (k : Nat) (s : SS) (O : List BB) : List BB := if s.act = true then O ++ [⟨k, s.term, s.cyc⟩] else O

/-- k is active and no lower than the other one -/
def Gd (k : Nat) (hi lo : SS) (O : List BB) : Prop :=
  hi.act = true ∧
  ((lo.act = true ∧ hi.term = lo.term + 1 ∧ (∀ b ∈ O, b.frm = k → b.term = hi.term ∨ b.term < lo.term) ∧ (∀ b ∈ O, b.frm ≠ k → b.term ≤ lo.term)) ∨
   (lo.act = false ∧ hi.term = lo.term ∧ (∀ b ∈ O, b.frm = k → b.term ≤ hi.term) ∧ (∀ b ∈ O, b.frm ≠ k → b.term < lo.term)))
structure Fit (p : Int) (m : Nat) (s : SS) : Prop where
  t : s.term ≤ m
  c : s.cyc ≤ m
  s0 : 0 ≤ s.sil
  s1 : s.sil < p
  a : s.act = true → s.sil = 0
/-- x is side k, y the other one -/
structure Inv (p : Int) (m k : Nat) (x y : SS) (O : List BB) : Prop where
  k1 : k ≤ 1
  fx : Fit p m x
  fy : Fit p m y
  bs : ∀ b ∈ O, b.frm ≤ 1 ∧ b.term ≤ m ∧ b.cyc ≤ m
  gd : Gd k x y O ∨ Gd (1 - k) y x O
theorem Inv.swap {p : Int} {m k : Nat} {x y : SS} {O : List BB} (h : Inv p m k x y O) : Inv p m (1 - k) y x O := by
  have hk := h.k1
  refine ⟨by omega, h.fy, h.fx, h.bs, ?_⟩
  rw [show 1 - (1 - k) = k from by omega]
  exact h.gd.symm
theorem Inv.swap1 {p : Int} {m : Nat} {x y : SS} {O : List BB} (h : Inv p m 1 x y O) : Inv p m 0 y x O := h.swap
theorem Inv.swap0 {p : Int} {m : Nat} {x y : SS} {O : List BB} (h : Inv p m 0 x y O) : Inv p m 1 y x O := h.swap
theorem Fit.up {p : Int} {m m' : Nat} {s : SS} (h : Fit p m s) (hm : m ≤ m') : Fit p m' s := by
  obtain ⟨a, b, c, d, e⟩ := h
  exact ⟨by omega, by omega, c, d, e⟩
theorem Inv.up {p : Int} {m m' k : Nat} {x y : SS} {O : List BB} (h : Inv p m k x y O) (hm : m ≤ m') : Inv p m' k x y O :=
  ⟨h.k1, h.fx.up hm, h.fy.up hm, fun b hb => by obtain ⟨a, c, d⟩ := h.bs b hb; exact ⟨a, by omega, by omega⟩, h.gd⟩
/-- what is asked behind each step -/
def MonoQ (s s' : SS) : Prop := s.term ≤ s'.term ∧ (s'.term = s.term → s.cyc ≤ s'.cyc)
theorem MonoQ.refl (s : SS) : MonoQ s s := ⟨Nat.le_refl _, fun _ => Nat.le_refl _⟩
theorem Inv.one {p : Int} {m k : Nat} {x y : SS} {O : List BB} (h : Inv p m k x y O) : (x.act = true ∨ y.act = true) ∧ (x.act = true → y.act = true → x.term ≠ y.term) := by
  rcases h.gd with ⟨h1, h2⟩ | ⟨h1, h2⟩
  · refine ⟨.inl h1, fun _ hy => ?_⟩
    rcases h2 with ⟨_, h3, _⟩ | ⟨h3, _⟩
    · omega
    · rw [hy] at h3; cases h3
  · refine ⟨.inr h1, fun hx _ => ?_⟩
    rcases h2 with ⟨_, h3, _⟩ | ⟨h3, _⟩
    · omega
    · rw [hx] at h3; cases h3
theorem Inv.done {p : Int} {m k : Nat} {x y : SS} {O : List BB} (h : Inv p m k x y O) : Inv p (m + 1) k (doneQ x) y O := by
  obtain ⟨k1, ⟨a, b, c, d, e⟩, fy, bs, gd⟩ := h.up (Nat.le_succ m)
  have hc := h.fx.c
  exact ⟨k1, ⟨a, by simp only [doneQ]; omega, c, d, e⟩, fy, bs, gd⟩
theorem Inv.say {p : Int} {m k : Nat} {x y : SS} {O : List BB} (h : Inv p m k x y O) : Inv p m k x y (sayQ k x O) := by
  unfold sayQ
  by_cases ha : x.act = true
  · rw [if_pos ha]
    obtain ⟨k1, fx, fy, bs, gd⟩ := h
    refine ⟨k1, fx, fy, fun b hb => ?_, ?_⟩
    · rcases List.mem_append.1 hb with hb | hb
      · exact bs b hb
      · rw [List.mem_singleton.1 hb]
        exact ⟨k1, fx.t, fx.c⟩
    · rcases gd with ⟨g1, g2⟩ | ⟨g1, g2⟩
      · left
        refine ⟨g1, ?_⟩
        rcases g2 with ⟨q1, q2, q3, q4⟩ | ⟨q1, q2, q3, q4⟩
        · refine .inl ⟨q1, q2, fun b hb hk => ?_, fun b hb hk => ?_⟩
          · rcases List.mem_append.1 hb with hb | hb
            · exact q3 b hb hk
            · rw [List.mem_singleton.1 hb]; exact .inl rfl
          · rcases List.mem_append.1 hb with hb | hb
            · exact q4 b hb hk
            · rw [List.mem_singleton.1 hb] at hk; exact absurd rfl hk
        · refine .inr ⟨q1, q2, fun b hb hk => ?_, fun b hb hk => ?_⟩
          · rcases List.mem_append.1 hb with hb | hb
            · exact q3 b hb hk
            · rw [List.mem_singleton.1 hb]; exact Nat.le_refl _
          · rcases List.mem_append.1 hb with hb | hb
            · exact q4 b hb hk
            · rw [List.mem_singleton.1 hb] at hk; exact absurd rfl hk
      · right
        refine ⟨g1, ?_⟩
        rcases g2 with ⟨q1, q2, q3, q4⟩ | ⟨q1, _⟩
        · refine .inl ⟨q1, q2, fun b hb hk => ?_, fun b hb hk => ?_⟩
          · rcases List.mem_append.1 hb with hb | hb
            · exact q3 b hb hk
            · rw [List.mem_singleton.1 hb] at hk
              have hk : k = 1 - k := hk
              omega
          · rcases List.mem_append.1 hb with hb | hb
            · exact q4 b hb hk
            · rw [List.mem_singleton.1 hb]; exact Nat.le_refl _
        · rw [ha] at q1; cases q1
  · rw [if_neg ha]
    exact h
theorem Inv.hear {p : Int} {m k : Nat} {x y : SS} {O : List BB} (h : Inv p m k x y O) {b : BB} (hb : b ∈ O) : Inv p m k (hearQ k x b) y O ∧ MonoQ x (hearQ k x b) := by
  unfold hearQ
  by_cases ho : oldQ k x b
  · rw [if_pos ho]
    exact ⟨h, MonoQ.refl x⟩
  · rw [if_neg ho]
    unfold oldQ at ho
    have n1 : b.frm ≠ k := fun e => ho (.inl e)
    have n2 : x.term ≤ b.term := Nat.not_lt.1 fun e => ho (.inr (.inl e))
    have n3 : b.term = x.term → ¬ (x.act = true ∧ k = 0 ∨ x.act = false ∧ b.cyc < x.cyc) := fun e e' => ho (.inr (.inr ⟨e, e'⟩))
    obtain ⟨k1, fx, fy, bs, gd⟩ := h
    obtain ⟨b1, b2, b3⟩ := bs b hb
    have hfk : b.frm = 1 - k := by omega
    have hp := fx.s0
    have hp' := fx.s1
    rcases gd with ⟨g1, g2⟩ | ⟨g1, g2⟩
    · exfalso
      rcases g2 with ⟨q1, q2, q3, q4⟩ | ⟨q1, q2, q3, q4⟩
      · have := q4 b hb n1
        omega
      · have := q4 b hb n1
        omega
    · rcases g2 with ⟨q1, q2, q3, q4⟩ | ⟨q1, q2, q3, q4⟩
      · have hbt : b.term = y.term := by
          rcases q3 b hb hfk with h | h
          · exact h
          · omega
        refine ⟨⟨k1, ⟨b2, b3, by simp, by simp only; omega, fun h => by cases h⟩, fy, bs, .inr ⟨g1, .inr ⟨rfl, hbt.symm, fun c hc hk => ?_, fun c hc hk => ?_⟩⟩⟩, ?_, ?_⟩
        · rcases q3 c hc hk with h | h <;> omega
        · have := q4 c hc hk
          simp only
          omega
        · simp only; omega
        · simp only; omega
      · have := q3 b hb hfk
        have hbt : b.term = x.term := by omega
        refine ⟨⟨k1, ⟨b2, b3, by simp, by simp only; omega, fun h => by cases h⟩, fy, bs, .inr ⟨g1, .inr ⟨rfl, by simp only; omega, q3, fun c hc hk => ?_⟩⟩⟩, ?_, ?_⟩
        · have := q4 c hc hk
          simp only
          omega
        · simp only; omega
        · intro _
          refine Nat.not_lt.1 fun hlt => n3 hbt (.inr ⟨q1, hlt⟩)
theorem Inv.wait {p : Int} {m k : Nat} {x y : SS} {O : List BB} (h : Inv p m k x y O) : Inv p (m + 1) k (waitQ p x) y O ∧ MonoQ x (waitQ p x) := by
  unfold waitQ
  by_cases ha : x.act = true
  · rw [if_pos ha]
    exact ⟨h.up (Nat.le_succ m), MonoQ.refl x⟩
  · rw [if_neg ha]
    have ha' : x.act = false := by cases hx : x.act <;> simp_all
    by_cases hs : x.sil + 1 < p
    · rw [if_pos hs]
      obtain ⟨k1, ⟨a, b, c, d, e⟩, fy, bs, gd⟩ := h.up (Nat.le_succ m)
      exact ⟨⟨k1, ⟨a, b, by simp only; omega, hs, fun h => absurd h ha⟩, fy, bs, gd⟩, MonoQ.refl x⟩
    · rw [if_neg hs]
      have hx := h.fx.t
      have hc := h.fx.c
      have h0 := h.fx.s0
      have h1 := h.fx.s1
      obtain ⟨k1, fx, fy, bs, gd⟩ := h.up (Nat.le_succ m)
      refine ⟨⟨k1, ⟨by simp only; omega, by simp only; omega, by simp, by simp only; omega, fun _ => rfl⟩, fy, bs, .inl ⟨rfl, .inl ?_⟩⟩, by simp only; omega, by simp only; omega⟩
      rcases gd with ⟨g1, _⟩ | ⟨g1, g2⟩
      · exact absurd g1 ha
      · rcases g2 with ⟨q1, _⟩ | ⟨q1, q2, q3, q4⟩
        · exact absurd q1 ha
        · refine ⟨g1, by simp only; omega, fun c hc hk => .inr ?_, fun c hc hk => ?_⟩
          · have := q4 c hc (by omega)
            omega
          · have := bs c hc
            have := q3 c hc (by omega)
            exact this
theorem mono_done (s : SS) : MonoQ s (doneQ s) := ⟨Nat.le_refl _, fun _ => by simp only [doneQ]; omega⟩
theorem hear_old {k : Nat} {s : SS} {b : BB} (h : oldQ k s b) : hearQ k s b = s := if_pos h
theorem hear_new {k : Nat} {s : SS} {b : BB} (h : ¬ oldQ k s b) : hearQ k s b = ⟨false, b.term, b.cyc, 0⟩ := if_neg h
theorem hear_pas {k : Nat} {s : SS} {b : BB} (h : s.act = false) : (hearQ k s b).act = false := by
  by_cases ho : oldQ k s b
  · rw [hear_old ho, h]
  · rw [hear_new ho]
/-- where both hear one another: k = 0 says first -/
theorem Inv.both {p : Int} {m : Nat} {x y : SS} {O : List BB} (h : Inv p m 0 x y O) :
    (x.act = true → (hearQ 1 y ⟨0, x.term, x.cyc⟩).act = false → True) ∧
    (let y1 := if x.act = true then hearQ 1 y ⟨0, x.term, x.cyc⟩ else y
     let x1 := if y1.act = true then hearQ 0 x ⟨1, y1.term, y1.cyc⟩ else x
     x1.act ≠ y1.act) := by
  refine ⟨fun _ _ => trivial, ?_⟩
  simp only
  rcases h.gd with ⟨g1, g2⟩ | ⟨g1, g2⟩
  · rw [if_pos g1]
    have hy : (hearQ 1 y ⟨0, x.term, x.cyc⟩).act = false := by
      rcases g2 with ⟨q1, q2, _⟩ | ⟨q1, q2, _⟩
      · rw [hear_new (by unfold oldQ; simp [q1]; omega)]
      · exact hear_pas q1
    rw [hy]
    simp [g1]
  · rcases g2 with ⟨q1, q2, _⟩ | ⟨q1, q2, _⟩
    · rw [if_pos q1]
      have hy : hearQ 1 y ⟨0, x.term, x.cyc⟩ = y := by
        exact hear_old (.inr (.inl (by simp only; omega)))
      rw [hy, if_pos g1, g1]
      have hx : (hearQ 0 x ⟨1, y.term, y.cyc⟩).act = false := by
        rw [hear_new (by unfold oldQ; simp [q1]; omega)]
      rw [hx]
      simp
    · have e : (if x.act = true then hearQ 1 y ⟨0, x.term, x.cyc⟩ else y) = y := if_neg (by rw [q1]; simp)
      rw [e, if_pos g1, g1, hear_pas q1]
      simp
end Go.Proofs.Ytlccpnloankloaa.Pair
