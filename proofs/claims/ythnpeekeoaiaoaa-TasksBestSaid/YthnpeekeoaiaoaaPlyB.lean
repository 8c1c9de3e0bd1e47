/-
  The board: its time, its lines, the stretches so far; what a stretch makes of it. No conditions beyond what is said.
-/
import Derived.Test.YthnpeekeoaiaoaaPly3
import Derived.Test.YthnpeekeoaiaoaaApl
namespace Go.Proofs.Ythnpeekeoaiaoaa.Task
open Go.RowKit Go.Proofs.Ythnpeekeoaiaoaa.W Go.Proofs.Ythnpeekeoaiaoaa.Ints

theorem sd_infoP : (Try.prog.info? 36).map (fun i => (i.zero, i.size, i.bytes)) = some (some (.agg #[.int .i64 0, .int .i64 0, .int .i64 0, .int .i64 0]), 4, 32) := by kernel_rfl
/-- what is no part of the board, and no row of slices, stays -/
def Kp (g gl : Nat) (w w' : World) : Prop := w.heap.size ≤ w'.heap.size ∧ ∀ b (o : Obj), b ≠ g → b ≠ gl → (∀ cs fr, o ≠ .cells cs 36 fr) → w.heap[b]? = some o → w'.heap[b]? = some o
theorem Kp.refl (g gl : Nat) (w : World) : Kp g gl w w := ⟨Nat.le_refl _, fun _ _ _ _ _ h => h⟩
theorem Kp.trans {g gl : Nat} {a b c : World} (h : Kp g gl a b) (k : Kp g gl b c) : Kp g gl a c := ⟨Nat.le_trans h.1 k.1, fun x o h1 h2 h3 h4 => k.2 x o h1 h2 h3 (h.2 x o h1 h2 h3 h4)⟩
theorem Kp.below {g gl : Nat} {a b : World} (h : Below a.heap.size a b) : Kp g gl a b := ⟨h.size, fun x _ _ _ _ h4 => (h.block x (Array.getElem?_eq_some_iff.1 h4).1).trans h4⟩
theorem Kp.set {g gl : Nat} (w : World) {p : Addr} (hp : p.block = g ∨ p.block = gl) (u : Value) : Kp g gl w (w.setCell p u) := ⟨by simp [World.setCell], fun x _ h1 h2 _ h4 => (Below.heap_setCell w p u x (by rcases hp with h | h <;> omega)).trans h4⟩
/-- a row of slices is written, or grows -/
theorem Kp.grow {g gl : Nat} {w w' : World} {base n c : Nat} {A : Option Addr} {xs : List Value} (ho : w.ownsRow base 36 4 (.slice A n c) n xs) (hg : w.grownBy w' (Value.slice A n c).ownBlock) : Kp g gl w w' := by
  refine ⟨hg.size, fun x o _ _ h3 h4 => ?_⟩
  refine (hg.block x (Array.getElem?_eq_some_iff.1 h4).1 (fun e => ?_)).trans h4
  rcases ho.2 with ⟨hv, _⟩ | ⟨g', cap, cur, hv, _, hh, _⟩
  · rw [hv] at e; simp [Value.ownBlock] at e
  · rw [hv] at e
    simp [Value.ownBlock] at e
    subst e
    rw [h4] at hh
    injection hh with hh
    exact h3 _ _ hh
def boardV (now : Int) (L C O : Option Addr) (n cL cC m cO : Nat) : Array Value := #[.int .i64 now, .slice L n cL, .slice C n cC, .slice O m cO]
/-- the board: its time, its lines, the stretches so far -/
structure BS where
  now : Nat
  ls : List LD
  q : List SD
def BS.ok (ts : List TD) (b : Nat) (s : BS) : Prop := s.ls.length = ts.length ∧ s.q.length ≤ b ∧ ∀ i l, s.ls[i]? = some l → 0 ≤ l.count ∧ l.count ≤ (b : Int) ∧ 0 ≤ l.job ∧ l.job ≤ (b : Int) ∧ 1 ≤ l.left ∧ l.left ≤ costF ts i
theorem BS.ok.more {ts : List TD} {b b' : Nat} {s : BS} (h : s.ok ts b) (hb : b ≤ b') : s.ok ts b' := ⟨h.1, Nat.le_trans h.2.1 hb, fun i l hl => by have := h.2.2 i l hl; omega⟩
def stdB (ts : List TD) (R : List Int) (e : Nat) : BS := ⟨e, lineF ts (playF ts e).1 R, (playF ts e).2⟩
abbrev rowsB (ts : List TD) (s : BS) (L C O : Option Addr) (n cL cC cO : Nat) : List Row :=
  [⟨56, 3, L, n, cL, ldV s.ls⟩, ⟨3, 1, C, n, cC, ints (ts.map TD.cost)⟩, ⟨36, 4, O, s.q.length, cO, sdV s.q⟩]
def nowAt (g : Nat) (w : World) : Nat := match w.cell? ⟨g, 0, none⟩ with | some (.int _ v) => v.toNat | _ => 0

def lastB (Q : List SD) (i j n : Int) : Bool := match Q.getLast? with | some s => s.til == n && s.task == i && s.job == j | none => false
theorem last_nil (i j n : Int) : lastB [] i j n = false := rfl
theorem last_snoc (P : List SD) (s : SD) (i j n : Int) : lastB (P ++ [s]) i j n = (s.til == n && s.task == i && s.job == j) := by simp [lastB]
theorem last_yes {Q : List SD} {i j n : Int} (h : lastB Q i j n = true) : ∃ P f, Q = P ++ [⟨i, j, f, n⟩] := by
  rcases snoc_cases Q with rfl | ⟨P, s, rfl⟩
  · cases h
  · rw [last_snoc] at h
    obtain ⟨a, b, c, d⟩ := s
    simp at h
    obtain ⟨⟨rfl, rfl⟩, rfl⟩ := h
    exact ⟨P, c, rfl⟩
theorem last_no {Q : List SD} {i j n : Int} (m : Int) (h : lastB Q i j n = false) : addS Q i j n m = Q ++ [⟨i, j, n, m⟩] := by
  rcases snoc_cases Q with rfl | ⟨P, s, rfl⟩
  · rfl
  · rw [last_snoc] at h
    refine add_no _ (fun h' => ?_)
    obtain ⟨a, b, c⟩ := h'
    simp [a, b, c] at h
theorem sd_setP (P : List SD) (j x f k p : Int) : sdV (P ++ [⟨j, x, f, p⟩]) = (sdV (P ++ [⟨j, x, f, k⟩])).set (P.length * 4 + 3) (.int .i64 p) := by
  have h : (P.flatMap SD.cs).length = P.length * 4 := flat_len SD.len P
  rw [sdV, sdV, List.flatMap_append, List.flatMap_append, List.set_append, if_neg (by omega), h]
  simp [SD.cs, show P.length * 4 + 3 - P.length * 4 = 3 from by omega]

theorem ld_set : ∀ (ls : List LD) (k : Nat) (a b c : Int), k < ls.length → ldV (ls.set k ⟨a, b, c⟩) = (((ldV ls).set (k * 3) (.int .i64 a)).set (k * 3 + 1) (.int .i64 b)).set (k * 3 + 2) (.int .i64 c)
  | [], k, _, _, _, h => by simp at h
  | x :: xs, 0, a, b, c, _ => by simp [ldV, LD.cs]
  | x :: xs, k + 1, a, b, c, h => by
    have ih := ld_set xs k a b c (by simpa using h)
    have e : ∀ i, (k + 1) * 3 + i = 3 + (k * 3 + i) := fun i => by omega
    have e0 : (k + 1) * 3 = 3 + (k * 3) := by omega
    have hx : x.cs.length = 3 := rfl
    simp only [ldV, List.set_cons_succ, List.flatMap_cons] at ih ⊢
    rw [ih, e, e, e0]
    have hs : ∀ (l : List Value) (i : Nat) (v : Value), (x.cs ++ l).set (3 + i) v = x.cs ++ l.set i v := fun l i v => by
      rw [List.set_append, if_neg (by omega), show 3 + i - x.cs.length = i from by omega]
    rw [hs, hs, hs]
theorem set_same {α : Type} {l : List α} {i : Nat} {v : α} (h : l[i]? = some v) : l.set i v = l := by
  apply List.ext_getElem?
  intro j
  by_cases e : i = j
  · subst e
    rw [List.getElem?_set_self (List.getElem?_eq_some_iff.1 h).1, h]
  · rw [List.getElem?_set_ne e]
theorem set_over {α : Type} (l : List α) {i j k : Nat} (u v w x : α) (hij : i ≠ k) (hjk : j ≠ k) : ((((l.set k x).set i v).set j w).set k u) = (((l.set i v).set j w).set k u) := by
  rw [List.set_comm _ _ (Ne.symm hij), List.set_comm _ _ (Ne.symm hjk), List.set_set]
/-- a stretch up to E, in which the first task of which a job is ready runs -/
def stepB (ts : List TD) (s : BS) (k : Nat) (l : LD) (E : Nat) : BS :=
  ⟨E, s.ls.set k (if l.left - ((E : Int) - s.now) = 0 then ⟨l.count - 1, l.job + 1, costF ts k⟩ else ⟨l.count, l.job, l.left - ((E : Int) - s.now)⟩), addS s.q k l.job s.now E⟩
theorem add_len (Q : List SD) (i j n m : Int) : (addS Q i j n m).length ≤ Q.length + 1 := by
  rcases snoc_cases Q with rfl | ⟨P, s, rfl⟩
  · simp [addS]
  · by_cases h : s.til = n ∧ s.task = i ∧ s.job = j
    · obtain ⟨a, b, c, d⟩ := s
      obtain ⟨rfl, rfl, rfl⟩ := h
      rw [add_yes]
      simp
    · rw [add_no _ h]
      simp
theorem step_ok {ts : List TD} (ha : ts.all TD.okB = true) {b : Nat} {s : BS} (h : s.ok ts b) {k : Nat} {l : LD} (hl : s.ls[k]? = some l) (hr : 0 < l.count) {E : Nat} (h1 : s.now < E) (h2 : (E : Int) ≤ s.now + l.left) : (stepB ts s k l E).ok ts (b + 1) := by
  obtain ⟨g1, g2, g3⟩ := h
  have gk := g3 k l hl
  obtain ⟨c1, _⟩ := cost_pos ha k
  refine ⟨by simpa [stepB] using g1, Nat.le_trans (add_len ..) (by omega), fun i l' hl' => ?_⟩
  have hk := (List.getElem?_eq_some_iff.1 hl).1
  simp only [stepB] at hl'
  by_cases e : k = i
  · subst e
    rw [List.getElem?_set_self hk] at hl'
    injection hl' with hl'
    subst hl'
    split
    · refine ⟨?_, ?_, ?_, ?_, ?_, ?_⟩ <;> simp only <;> omega
    · refine ⟨?_, ?_, ?_, ?_, ?_, ?_⟩ <;> simp only <;> omega
  · rw [List.getElem?_set_ne e] at hl'
    have := g3 i l' hl'
    omega
theorem fst_cases (ls : List LD) : (fstAt ls = -1 ∧ ls.all (fun l => !l.rdy) = true) ∨ ∃ k l, fstAt ls = ((k : Nat) : Int) ∧ ls[k]? = some l ∧ 0 < l.count := by
  unfold fstAt
  rcases h : ls.findIdx? LD.rdy with _ | k
  · refine .inl ⟨rfl, ?_⟩
    rw [List.all_eq_true]
    intro x hx
    rw [List.findIdx?_eq_none_iff] at h
    simpa using h x hx
  · rw [List.findIdx?_eq_some_iff_getElem] at h
    obtain ⟨hk, h2, _⟩ := h
    exact .inr ⟨k, ls[k], rfl, List.getElem?_eq_getElem hk, by simpa [LD.rdy] using h2⟩
theorem idle_std {ts : List TD} (ha : ts.all TD.okB = true) {R : List Int} {e T : Nat} (he : e < T) (hR : ∀ i, i < ts.length → ∀ m : Nat, e ≤ m → m < T → relF ts i m = R.getD i 0)
    (hf : fstAt (stdB ts R e).ls = -1) : (⟨T, (stdB ts R e).ls, (stdB ts R e).q⟩ : BS) = stdB ts R T := by
  simp only [stdB] at hf ⊢
  rw [fst_line ha (fun i hi => hR i hi e (Nat.le_refl _) he)] at hf
  have hn : firstF ts (playF ts e).1 e = none := by
    rcases h : firstF ts (playF ts e).1 e with _ | k
    · rfl
    · rw [h] at hf
      simp only at hf
      omega
  have hidle : playF ts T = playF ts e := play_idle T (by omega) (fun m h1 h2 i hi => by
    rw [ready_is ha (hR i hi m h1 h2)]
    have hni : readyB ts (playF ts e).1 e i = false := by
      unfold firstF at hn
      rw [List.find?_eq_none] at hn
      simpa using hn i (List.mem_range.2 hi)
    rw [ready_is ha (hR i hi e (Nat.le_refl _) he)] at hni
    exact hni)
  rw [hidle]
theorem step_std {ts : List TD} (ha : ts.all TD.okB = true) {R : List Int} {e T E k : Nat} {l : LD} (hR : ∀ i, i < ts.length → ∀ m : Nat, e ≤ m → m < T → relF ts i m = R.getD i 0)
    (hf : fstAt (stdB ts R e).ls = ((k : Nat) : Int)) (hl : (stdB ts R e).ls[k]? = some l) (h1 : e < E) (h2 : E ≤ T) (h3 : (E : Int) ≤ e + l.left) : stepB ts (stdB ts R e) k l E = stdB ts R E := by
  simp only [stdB] at hf hl
  rw [fst_line ha (fun i hi => hR i hi e (Nat.le_refl _) (by omega))] at hf
  have hn : firstF ts (playF ts e).1 e = some k := by
    rcases h : firstF ts (playF ts e).1 e with _ | k'
    · rw [h] at hf
      simp only at hf
      omega
    · rw [h] at hf
      simp only at hf
      congr 1
      omega
  obtain ⟨hk, _⟩ := first_inv hn
  obtain ⟨g1, _⟩ := play_ok ts e
  rw [line_at hk] at hl
  injection hl with hl
  have hrun := play_run ha hn E h1 (by rw [← hl] at h3; exact h3) (fun i hi m m1 m2 => (hR i hi m m1 (by omega)).trans (hR i hi e (Nat.le_refl _) (by omega)).symm)
  simp only [stepB, stdB]
  rw [hrun]
  simp only
  have hls := line_set (ts := ts) (D := (playF ts e).1) (R := R) (D' := (playF ts e).1.set k ((playF ts e).1.getD k 0 + ((E : Int) - e))) (R' := R) (k := k) (fun i hi => ⟨by rw [getD_set (by omega), if_neg (Ne.symm hi)], rfl⟩)
  rw [hls]
  congr 1
  · congr 1
    by_cases hz : l.left - ((E : Int) - (e : Int)) = 0
    · refine (if_pos hz).trans ?_
      rw [line_done ha (by omega) (by rw [hl]; omega), hl]
    · refine (if_neg hz).trans ?_
      rw [line_run ha (by omega) (by omega) (by rw [hl]; omega), hl]
  · rw [← hl]
    rfl
theorem ld_one {ls : List LD} {k : Nat} {c j ℓ : Int} (hk : k < ls.length) (h0 : (ldV ls)[k * 3]? = some (.int .i64 c)) (h1 : (ldV ls)[k * 3 + 1]? = some (.int .i64 j)) : ldV (ls.set k ⟨c, j, ℓ⟩) = (ldV ls).set (k * 3 + 2) (.int .i64 ℓ) := by
  rw [ld_set _ _ _ _ _ hk, set_same h0, set_same h1]
theorem ld_all {ls : List LD} {k : Nat} {c j ℓ : Int} (hk : k < ls.length) (x : Value) : ldV (ls.set k ⟨c, j, ℓ⟩) = ((((ldV ls).set (k * 3 + 2) x).set (k * 3) (.int .i64 c)).set (k * 3 + 1) (.int .i64 j)).set (k * 3 + 2) (.int .i64 ℓ) := by
  rw [ld_set _ _ _ _ _ hk, set_over _ _ _ _ _ (by omega) (by omega)]
end Go.Proofs.Ythnpeekeoaiaoaa.Task
