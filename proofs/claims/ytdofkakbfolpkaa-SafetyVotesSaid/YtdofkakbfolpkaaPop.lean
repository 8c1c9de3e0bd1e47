/-
  How many bits of a number are set; sets of small numbers as bits. No conditions: plain lemmas.
-/
import Derived.WalkKit
import Derived.Laws.BitsAllLaws
namespace Go.Proofs.Ytdofkakbfolpkaa.Pop

def pop : Nat → Nat → Nat
  | 0, _ => 0
  | n + 1, x => x % 2 + pop n (x / 2)
def mask (B m : Nat) : Nat → Nat
  | 0 => 0
  | n + 1 => m + B * mask B m n
def ds (B : Nat) : Nat → Nat → Nat
  | 0, _ => 0
  | n + 1, x => x % B + ds B n (x / B)
def db (B c : Nat) : Nat → Nat → Prop
  | 0, x => x = 0
  | n + 1, x => x % B ≤ c ∧ db B c n (x / B)

theorem and_step (k x m M : Nat) (hm : m < 2 ^ k) : x &&& (m + 2 ^ k * M) = (x % 2 ^ k &&& m) + 2 ^ k * (x / 2 ^ k &&& M) := by
  have h0 : 0 < 2 ^ k := Nat.two_pow_pos k
  have h1 := Nat.and_mod_two_pow (a := x) (b := m + 2 ^ k * M) (n := k)
  have h2 := Nat.and_div_two_pow (a := x) (b := m + 2 ^ k * M) (n := k)
  rw [Nat.add_mul_mod_self_left, Nat.mod_eq_of_lt hm] at h1
  rw [Nat.add_mul_div_left _ _ h0, Nat.div_eq_of_lt hm, Nat.zero_add] at h2
  rw [← h1, ← h2]
  exact (Nat.mod_add_div _ _).symm

def F1 : Nat → Nat → Nat
  | 0, _ => 0
  | n + 1, x => (x / 2 % 2 + x % 2) + 4 * F1 n (x / 4)
theorem f1_eq : ∀ n x, (x / 2 &&& mask 4 1 n) + (x &&& mask 4 1 n) = F1 n x
  | 0, x => by simp [mask, F1]
  | n + 1, x => by
    have h := f1_eq n (x / 4)
    have e1 := and_step 2 (x / 2) 1 (mask 4 1 n) (by omega)
    have e2 := and_step 2 x 1 (mask 4 1 n) (by omega)
    rw [nat_mask1] at e1 e2
    simp only [mask, F1]
    rw [show (4 : Nat) = 2 ^ 2 from rfl, e1, e2, show x / 2 / 2 ^ 2 = x / 4 / 2 by omega, show (2 : Nat) ^ 2 = 4 from rfl, ← h]
    omega
theorem f1_ds : ∀ n x, ds 4 n (F1 n x) = pop (2 * n) x
  | 0, x => rfl
  | n + 1, x => by
    have h := f1_ds n (x / 4)
    rw [show 2 * (n + 1) = 2 * n + 1 + 1 by omega]
    simp only [ds, F1, pop]
    rw [show (x / 2 % 2 + x % 2 + 4 * F1 n (x / 4)) / 4 = F1 n (x / 4) by omega, h, show x / 2 / 2 = x / 4 by omega]
    omega
theorem f1_db : ∀ n x, db 4 2 n (F1 n x)
  | 0, x => rfl
  | n + 1, x => by
    have h := f1_db n (x / 4)
    simp only [db, F1]
    rw [show (x / 2 % 2 + x % 2 + 4 * F1 n (x / 4)) / 4 = F1 n (x / 4) by omega]
    exact ⟨by omega, h⟩

def F2 : Nat → Nat → Nat
  | 0, _ => 0
  | n + 1, x => (x / 4 % 4 + x % 4) + 16 * F2 n (x / 16)
theorem f2_eq : ∀ n x, (x / 4 &&& mask 16 3 n) + (x &&& mask 16 3 n) = F2 n x
  | 0, x => by simp [mask, F2]
  | n + 1, x => by
    have h := f2_eq n (x / 16)
    have e1 := and_step 4 (x / 4) 3 (mask 16 3 n) (by omega)
    have e2 := and_step 4 x 3 (mask 16 3 n) (by omega)
    rw [nat_mask2] at e1 e2
    simp only [mask, F2]
    rw [show (16 : Nat) = 2 ^ 4 from rfl, e1, e2, show x / 4 / 2 ^ 4 = x / 16 / 4 by omega, show (2 : Nat) ^ 4 = 16 from rfl, ← h]
    omega
theorem f2_ds : ∀ n x, ds 16 n (F2 n x) = ds 4 (2 * n) x
  | 0, x => rfl
  | n + 1, x => by
    have h := f2_ds n (x / 16)
    rw [show 2 * (n + 1) = 2 * n + 1 + 1 by omega]
    simp only [ds, F2]
    rw [show (x / 4 % 4 + x % 4 + 16 * F2 n (x / 16)) / 16 = F2 n (x / 16) by omega, h, show x / 4 / 4 = x / 16 by omega]
    omega
theorem f2_db : ∀ n x, db 4 2 (2 * n) x → db 16 4 n (F2 n x)
  | 0, x, _ => rfl
  | n + 1, x, hx => by
    rw [show 2 * (n + 1) = 2 * n + 1 + 1 by omega] at hx
    simp only [db] at hx
    obtain ⟨h1, h2, h3⟩ := hx
    rw [show x / 4 / 4 = x / 16 by omega] at h3
    have h := f2_db n (x / 16) h3
    simp only [db, F2]
    rw [show (x / 4 % 4 + x % 4 + 16 * F2 n (x / 16)) / 16 = F2 n (x / 16) by omega]
    exact ⟨by omega, h⟩

def F3 : Nat → Nat → Nat
  | 0, _ => 0
  | n + 1, x => (x / 16 % 16 + x % 16) + 256 * F3 n (x / 256)
theorem db_low {B c n x : Nat} (h : db B c n x) : x % B ≤ c := by
  cases n with
  | zero => simp only [db] at h; subst h; simp
  | succ n => exact h.1
theorem half_sum (x : Nat) (h1 : x % 16 ≤ 4) (h2 : x / 16 % 16 ≤ 4) (h3 : x / 256 % 16 ≤ 4) : (x / 16 + x) / 256 = x / 256 / 16 + x / 256 := by
  have e : x / 256 = x / 16 / 16 := by rw [Nat.div_div_eq_div_mul]
  rw [e] at h3 ⊢
  generalize ha : x % 16 = a at *
  generalize hy : x / 16 = y at *
  generalize hb : y % 16 = b at *
  generalize hz : y / 16 = z at *
  generalize hc : z % 16 = c at *
  generalize hu : z / 16 = u at *
  obtain rfl : z = c + 16 * u := by omega
  obtain rfl : y = b + 16 * (c + 16 * u) := by omega
  obtain rfl : x = a + 16 * (b + 16 * (c + 16 * u)) := by omega
  clear ha hy hb hz hc hu e
  omega
theorem f3_eq : ∀ n x, db 16 4 (2 * n) x → (x / 16 + x &&& mask 256 15 n) = F3 n x
  | 0, x, _ => by simp [mask, F3]
  | n + 1, x, hx => by
    rw [show 2 * (n + 1) = 2 * n + 1 + 1 by omega] at hx
    simp only [db] at hx
    obtain ⟨h1, h2, h3⟩ := hx
    rw [show x / 16 / 16 = x / 256 by omega] at h3
    have hl := db_low h3
    have h := f3_eq n (x / 256) h3
    have e1 := and_step 8 (x / 16 + x) 15 (mask 256 15 n) (by omega)
    rw [nat_mask4] at e1
    simp only [mask, F3]
    rw [show (256 : Nat) = 2 ^ 8 from rfl, e1, show (x / 16 + x) / 2 ^ 8 = x / 256 / 16 + x / 256 from half_sum x h1 h2 hl, show (2 : Nat) ^ 8 = 256 from rfl, h]
    omega
theorem f3_ds : ∀ n x, ds 256 n (F3 n x) = ds 16 (2 * n) x
  | 0, x => rfl
  | n + 1, x => by
    have h := f3_ds n (x / 256)
    rw [show 2 * (n + 1) = 2 * n + 1 + 1 by omega]
    simp only [ds, F3]
    rw [show (x / 16 % 16 + x % 16 + 256 * F3 n (x / 256)) / 256 = F3 n (x / 256) by omega, h, show x / 16 / 16 = x / 256 by omega]
    omega
theorem f3_db : ∀ n x, db 16 4 (2 * n) x → db 256 8 n (F3 n x)
  | 0, x, _ => rfl
  | n + 1, x, hx => by
    rw [show 2 * (n + 1) = 2 * n + 1 + 1 by omega] at hx
    simp only [db] at hx
    obtain ⟨h1, h2, h3⟩ := hx
    rw [show x / 16 / 16 = x / 256 by omega] at h3
    have h := f3_db n (x / 256) h3
    simp only [db, F3]
    rw [show (x / 16 % 16 + x % 16 + 256 * F3 n (x / 256)) / 256 = F3 n (x / 256) by omega]
    exact ⟨by omega, h⟩
theorem fold_val (d0 d1 d2 d3 d4 d5 d6 d7 x : Nat) (h0 : d0 ≤ 8) (h1 : d1 ≤ 8) (h2 : d2 ≤ 8) (h3 : d3 ≤ 8) (h4 : d4 ≤ 8) (h5 : d5 ≤ 8) (h6 : d6 ≤ 8) (h7 : d7 ≤ 8)
    (hx : x = d0 + 256 * (d1 + 256 * (d2 + 256 * (d3 + 256 * (d4 + 256 * (d5 + 256 * (d6 + 256 * d7))))))) :
    (x + x / 256 + (x + x / 256) / 65536 + (x + x / 256 + (x + x / 256) / 65536) / 4294967296) % 128 = d0 + d1 + d2 + d3 + d4 + d5 + d6 + d7 := by
  obtain ⟨x1, hx1⟩ : ∃ x1, x1 = d1 + 256 * (d2 + 256 * (d3 + 256 * (d4 + 256 * (d5 + 256 * (d6 + 256 * d7))))) := ⟨_, rfl⟩
  have q0 : x / 256 = x1 := by rw [hx, ← hx1]; clear hx hx1; omega
  rw [q0]
  clear q0
  obtain ⟨B, hB⟩ : ∃ B, B = (d2 + d3) + 256 * ((d3 + d4) + 256 * ((d4 + d5) + 256 * ((d5 + d6) + 256 * ((d6 + d7) + 256 * d7)))) := ⟨_, rfl⟩
  obtain ⟨C, hC⟩ : ∃ C, C = (d4 + d5 + d6 + d7) + 256 * ((d5 + d6 + d7) + 256 * ((d6 + d7) + 256 * d7)) := ⟨_, rfl⟩
  have y : x + x1 = (d0 + d1) + 256 * ((d1 + d2) + 256 * B) := by clear h0 h1 h2 h3 h4 h5 h6 h7; omega
  have z : x + x1 + B = (d0 + d1 + d2 + d3) + 256 * ((d1 + d2 + d3 + d4) + 256 * ((d2 + d3 + d4 + d5) + 256 * ((d3 + d4 + d5 + d6) + 256 * C))) := by clear h0 h1 h2 h3 h4 h5 h6 h7 y; omega
  clear hx hx1 hB
  generalize x + x1 = Y at *
  have q1 : Y / 65536 = B := by rw [y]; clear z hC y; omega
  rw [q1]
  generalize Y + B = Z at *
  have q2 : Z / 4294967296 = C := by rw [z]; clear y hC z q1; omega
  rw [q2, hC, z, hC]
  clear q1 q2 y z hC
  omega
theorem fold_eq (x : Nat) (h : db 256 8 8 x) :
    (x + x / 256 + (x + x / 256) / 65536 + (x + x / 256 + (x + x / 256) / 65536) / 4294967296) % 128 = ds 256 8 x ∧ x ≤ 578721382704613384 := by
  simp only [db] at h
  obtain ⟨h0, h1, h2, h3, h4, h5, h6, h7, h8⟩ := h
  have e : x = x % 256 + 256 * (x / 256 % 256 + 256 * (x / 256 / 256 % 256 + 256 * (x / 256 / 256 / 256 % 256 + 256 * (x / 256 / 256 / 256 / 256 % 256 + 256 * (x / 256 / 256 / 256 / 256 / 256 % 256 + 256 * (x / 256 / 256 / 256 / 256 / 256 / 256 % 256 + 256 * (x / 256 / 256 / 256 / 256 / 256 / 256 / 256 % 256 + 256 * (x / 256 / 256 / 256 / 256 / 256 / 256 / 256 / 256)))))))) := by simp only [Nat.mod_add_div]
  rw [h8, Nat.mul_zero, Nat.add_zero] at e
  refine ⟨?_, ?_⟩
  · have h := fold_val _ _ _ _ _ _ _ _ x h0 h1 h2 h3 h4 h5 h6 h7 e
    rw [h]
    simp only [ds]
    omega
  · clear h8
    generalize x / 256 / 256 / 256 / 256 / 256 / 256 / 256 % 256 = d7 at *
    generalize x / 256 / 256 / 256 / 256 / 256 / 256 % 256 = d6 at *
    generalize x / 256 / 256 / 256 / 256 / 256 % 256 = d5 at *
    generalize x / 256 / 256 / 256 / 256 % 256 = d4 at *
    generalize x / 256 / 256 / 256 % 256 = d3 at *
    generalize x / 256 / 256 % 256 = d2 at *
    generalize x / 256 % 256 = d1 at *
    generalize x % 256 = d0 at *
    omega
/-- Go's own count of 64 bits -/
theorem count_eq (x : Nat) :
    let a := (x / 2 &&& 6148914691236517205) + (x &&& 6148914691236517205)
    let b := (a / 4 &&& 3689348814741910323) + (a &&& 3689348814741910323)
    let c := (b / 16 + b) &&& 1085102592571150095
    (c + c / 256 + (c + c / 256) / 65536 + (c + c / 256 + (c + c / 256) / 65536) / 4294967296) % 128 = pop 64 x ∧ a < 18446744073709551616 ∧ b < 9223372036854775808 ∧ c ≤ 578721382704613384 := by
  intro a b c
  have m1 : mask 4 1 32 = 6148914691236517205 := by decide
  have m2 : mask 16 3 16 = 3689348814741910323 := by decide
  have m3 : mask 256 15 8 = 1085102592571150095 := by decide
  have ha : a = F1 32 x := by simp only [a, ← m1]; exact f1_eq 32 x
  have hb : b = F2 16 a := by simp only [b, ← m2]; exact f2_eq 16 a
  have hdb : db 16 4 16 b := by rw [hb]; exact f2_db 16 a (by rw [ha]; exact f1_db 32 x)
  have hc : c = F3 8 b := by simp only [c, ← m3]; exact f3_eq 8 b hdb
  have hdc : db 256 8 8 c := by rw [hc]; exact f3_db 8 b hdb
  obtain ⟨h1, h2⟩ := fold_eq c hdc
  refine ⟨?_, ?_, ?_, h2⟩
  · rw [h1, hc, f3_ds 8 b, hb, f2_ds 16 a, ha, f1_ds 32 x]
  · have h3 : x / 2 &&& 6148914691236517205 ≤ 6148914691236517205 := Nat.and_le_right
    have h4 : x &&& 6148914691236517205 ≤ 6148914691236517205 := Nat.and_le_right
    omega
  · have h3 : a / 4 &&& 3689348814741910323 ≤ 3689348814741910323 := Nat.and_le_right
    have h4 : a &&& 3689348814741910323 ≤ 3689348814741910323 := Nat.and_le_right
    omega

/-! ### sets -/
theorem or_low0 (x : Nat) : (x ||| 1) % 2 = 1 ∧ (x ||| 1) / 2 = x / 2 := by
  have h1 := Nat.or_mod_two_pow (a := x) (b := 1) (n := 1)
  have h2 := Nat.or_div_two_pow (a := x) (b := 1) (n := 1)
  simp at h1 h2
  refine ⟨?_, h2⟩
  rw [h1]
  have : x % 2 = 0 ∨ x % 2 = 1 := by omega
  rcases this with h | h <;> rw [h] <;> rfl
theorem or_low (x k : Nat) : (x ||| 2 ^ (k + 1)) % 2 = x % 2 ∧ (x ||| 2 ^ (k + 1)) / 2 = x / 2 ||| 2 ^ k := by
  have h1 := Nat.or_mod_two_pow (a := x) (b := 2 ^ (k + 1)) (n := 1)
  have h2 := Nat.or_div_two_pow (a := x) (b := 2 ^ (k + 1)) (n := 1)
  have e1 : 2 ^ (k + 1) % 2 = 0 := by rw [Nat.pow_succ]; omega
  have e2 : 2 ^ (k + 1) / 2 = 2 ^ k := by rw [Nat.pow_succ]; omega
  simp only [Nat.pow_one] at h1 h2
  rw [e1] at h1
  rw [e2] at h2
  exact ⟨by simpa using h1, h2⟩
theorem pop_or : ∀ (n x k : Nat), k < n → pop n (x ||| 2 ^ k) = pop n x + if x.testBit k then 0 else 1
  | 0, x, k, h => absurd h (by omega)
  | n + 1, x, 0, _ => by
    obtain ⟨h1, h2⟩ := or_low0 x
    simp only [pop, Nat.pow_zero, h1, h2, Nat.testBit_zero]
    have : x % 2 = 0 ∨ x % 2 = 1 := by omega
    rcases this with h | h <;> simp [h] <;> omega
  | n + 1, x, k + 1, h => by
    obtain ⟨h1, h2⟩ := or_low x k
    have ih := pop_or n (x / 2) k (by omega)
    simp only [pop, h1, h2, ih, Nat.testBit_succ]
    omega
def setN (l : List Nat) : Nat := l.foldl (fun s n => s ||| 2 ^ n) 0
theorem setN_snoc (l : List Nat) (a : Nat) : setN (l ++ [a]) = setN l ||| 2 ^ a := by simp [setN]
theorem snoc_ind {α : Type} {P : List α → Prop} (h0 : P []) (h1 : ∀ l a, P l → P (l ++ [a])) (l : List α) : P l := by
  rw [← List.reverse_reverse l]
  induction l.reverse with
  | nil => exact h0
  | cons a l ih =>
    rw [List.reverse_cons]
    exact h1 _ _ ih
theorem setN_bit (l : List Nat) : ∀ i, (setN l).testBit i = decide (i ∈ l) := by
  refine snoc_ind (P := fun l => ∀ i, (setN l).testBit i = decide (i ∈ l)) ?_ ?_ l
  · intro i; simp [setN]
  · intro l a ih i
    rw [setN_snoc, Nat.testBit_or, ih, Nat.testBit_two_pow, Bool.eq_iff_iff]
    simp
    exact or_congr Iff.rfl eq_comm
theorem setN_lt (l : List Nat) (h : ∀ i ∈ l, i < 64) : setN l < 18446744073709551616 := by
  refine Nat.lt_pow_two_of_testBit (n := 64) _ fun i hi => ?_
  rw [setN_bit, decide_eq_false_iff_not]
  intro hm
  have := h i hm
  omega
theorem pop_zero : ∀ n, pop n 0 = 0
  | 0 => rfl
  | n + 1 => by simp [pop, pop_zero n]
theorem nodup_snoc {l : List Nat} {a : Nat} : (l ++ [a]).Nodup ↔ l.Nodup ∧ a ∉ l := by
  rw [List.nodup_append]
  simp
  intro _
  exact ⟨fun h hm => h a hm rfl, fun h b hb e => h (e ▸ hb)⟩
theorem pop_setN (l : List Nat) : (∀ i ∈ l, i < 64) → pop 64 (setN l) ≤ l.length ∧ (pop 64 (setN l) = l.length ↔ l.Nodup) := by
  refine snoc_ind (P := fun l => (∀ i ∈ l, i < 64) → pop 64 (setN l) ≤ l.length ∧ (pop 64 (setN l) = l.length ↔ l.Nodup)) ?_ ?_ l
  · intro _; simp [setN, pop_zero]
  · intro l a ih h
    obtain ⟨h1, h2⟩ := ih (fun i hi => h i (by simp [hi]))
    have h3 := pop_or 64 (setN l) a (h a (by simp))
    rw [setN_bit] at h3
    rw [setN_snoc, h3, nodup_snoc, List.length_append]
    by_cases hm : a ∈ l
    · simp [hm]
      omega
    · simp [hm]
      exact ⟨h1, h2⟩
theorem setN_and (l : List Nat) (D : Nat) : setN l &&& D = setN (l.filter (fun i => D.testBit i)) := by
  refine Nat.eq_of_testBit_eq fun i => ?_
  rw [Nat.testBit_and, setN_bit, setN_bit, Bool.eq_iff_iff]
  simp
theorem pop_and (l : List Nat) (D : Nat) (h : ∀ i ∈ l, i < 64) (hn : l.Nodup) : pop 64 (setN l &&& D) = (l.filter (fun i => D.testBit i)).length := by
  rw [setN_and]
  exact ((pop_setN _ (fun i hi => h i (List.mem_filter.1 hi).1)).2).2 (hn.filter _)
theorem pop_le (n : Nat) : ∀ x, pop n x ≤ n := by
  induction n with
  | zero => intro x; exact Nat.le_refl _
  | succ n ih => intro x; have := ih (x / 2); simp only [pop]; omega
end Go.Proofs.Ytdofkakbfolpkaa.Pop
