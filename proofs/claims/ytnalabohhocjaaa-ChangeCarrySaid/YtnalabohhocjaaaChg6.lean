/-
  What a map from what a slot has to have in common to its place tells. No conditions but the slots'.
-/
import Derived.Test.YtnalabohhocjaaaChg5
import Derived.Maps.OwnSet
import Derived.Maps.OwnOps
import Derived.DeepKeys4
namespace Go.Proofs.Ytnalabohhocjaaa.Chg
open Go.RowKit Go.Maps Go.Proofs.Ytnalabohhocjaaa.W Go.Proofs.Ytnalabohhocjaaa.Ints Go.Proofs.Ytnalabohhocjaaa.Cod

theorem laid : laidOutB Try.prog = true := by kernel_rfl
theorem rowK : (60 : TypeId) < Try.prog.types.size := of_decide_eq_true (by kernel_rfl)
theorem wideK : (match Try.prog.underlying 60 with | some (.array _ _) | some (.struct _) => true | _ => false) = true := by rw [Try.underlying60]
theorem lawK : Keyed Try.prog 60 := Keyed.of_law (deep_law_laid laid (m := 2) (by omega) rowK (by kernel_rfl) wideK)
theorem typeK : Try.prog.keyType 60 = true := by kernel_rfl
theorem cellsK : Try.prog.cellsOf 60 = 3 := by kernel_rfl
theorem zeroI (w : World) : (zeroValue 3).run Try.prog w = .ok (.int .i64 0) w := by kernel_rfl

abbrev keyV (s : SL) : Value := .agg #[.string s.path, .int .i64 s.kind, .int .i64 s.len]
def keyL (s : SL) : Lit := .string (keyBytes [.string s.path.data.toList, .int .i64 s.kind, .int .i64 s.len])
theorem key_of (s : SL) (hp : s.path.size ≤ maxLen) (hk : I64 s.kind) (hl : I64 s.len) : keyOf Try.prog 60 (keyV s) = some (keyL s) := by
  obtain ⟨m, hm⟩ : ∃ m, Try.prog.types.size = m + 2 := ⟨Try.prog.types.size - 2, by have : 2 ≤ Try.prog.types.size := of_decide_eq_true (by kernel_rfl); omega⟩
  have k1 : Try.prog.cellsOf 3 = 1 := by kernel_rfl
  have k2 : Try.prog.cellsOf 9 = 1 := by kernel_rfl
  have k4 : Try.prog.cellsOf 47 = 1 := by kernel_rfl
  have w1 : (Lit.int .i64 s.kind).wf = true := WalkArith.wf_i64 hk
  have w2 : (Lit.int .i64 s.len).wf = true := WalkArith.wf_i64 hl
  unfold keyOf
  simp only [Try.underlying60]
  rw [if_pos (by simp [typeK, Value.formed, Try.underlying60, cellsK]), hm]
  unfold Program.keyLits
  simp only [Try.underlying60, Value.cells]
  rw [if_pos (by rw [cellsK]; exact ⟨rfl, by simp⟩)]
  simp [k1, k2, k4, Program.keyLits, Try.underlying9, Try.underlying3, Try.underlying47, w1, w2, hp, keyL]
theorem isKey (s : SL) : WideAt.IsKeyLit (keyL s) := trivial
theorem keyL_iff {s t : SL} (hs : s.ok) (ht : t.ok) : keyL t = keyL s ↔ alike t s = true := by
  have b : reachBytes ≤ maxLen := by decide
  have e1 := key_of s (Nat.le_trans hs.1 b) hs.2.1 hs.2.2.2.1
  have e2 := key_of t (Nat.le_trans ht.1 b) ht.2.1 ht.2.2.2.1
  constructor
  · intro h
    rw [h] at e2
    have h3 := lawK.inj e2 e1
    injection h3 with h3
    have h4 := congrArg Array.toList h3
    simp only [List.cons.injEq, Value.string.injEq, Value.int.injEq, true_and, and_true] at h4
    obtain ⟨h5, h6, h7⟩ := h4
    simp [alike, h5, h6, h7]
  · intro h
    simp only [alike, Bool.and_eq_true, beq_iff_eq] at h
    obtain ⟨h1, h2, h3⟩ := h
    have h1' : t.path.data.toList = s.path.data.toList := by simpa [ByteArray.toList_eq] using h1
    simp [keyL, h1', h2, h3]
/-- the map from slots to their places, i on -/
def mapF : List SL → Nat → DataW Unit
  | [], _ => .map []
  | s :: t, i => (mapF t (i + 1)).put (keyL s) (.lit (.int .i64 (i : Int)))
theorem map_is : ∀ (l : List SL) (i : Nat), IsMap (mapF l i)
  | [], _ => isMap_empty
  | _s :: t, i => (map_is t (i + 1)).put _ _
theorem known_cons (a : SL) (l : List SL) (s : SL) : knownF (a :: l) s = if alike a s then some 0 else (knownF l s).map (· + 1) := by simp [knownF, List.findIdx?_cons]
theorem map_at {s : SL} (hs : s.ok) (z : DataW Unit) : ∀ (l : List SL) (i : Nat), (∀ t ∈ l, t.ok) → (mapF l i).atKey (keyL s) z = (match knownF l s with | some k => .lit (.int .i64 ((i + k : Nat) : Int)) | none => z)
  | [], _, _ => rfl
  | a :: l, i, h => by
    have ha := h a (List.mem_cons_self ..)
    have ih := map_at hs z l (i + 1) (fun t ht => h t (List.mem_cons_of_mem _ ht))
    rw [known_cons]
    cases hk : alike a s with
    | true =>
      have e := (keyL_iff hs ha).2 hk
      unfold mapF
      rw [e, atKey_put_same (map_is l (i + 1)) (isKey s)]
      simp
    | false =>
      have e : keyL s ≠ keyL a := fun e => by rw [(keyL_iff hs ha).1 e.symm] at hk; cases hk
      unfold mapF
      rw [atKey_put_other e, ih]
      cases knownF l s with
      | none => simp
      | some k => simp; omega
theorem map_has {s : SL} (hs : s.ok) : ∀ (l : List SL) (i : Nat), (∀ t ∈ l, t.ok) → Maps.has (mapF l i) (keyL s) = (knownF l s).isSome
  | [], _, _ => rfl
  | a :: l, i, h => by
    have ha := h a (List.mem_cons_self ..)
    have ih := map_has hs l (i + 1) (fun t ht => h t (List.mem_cons_of_mem _ ht))
    rw [known_cons]
    cases hk : alike a s with
    | true =>
      have e := (keyL_iff hs ha).2 hk
      unfold mapF
      rw [e, has_put_same (map_is l (i + 1)) (isKey s)]
      simp
    | false =>
      have e : keyL s ≠ keyL a := fun e => by rw [(keyL_iff hs ha).1 e.symm] at hk; cases hk
      unfold mapF
      rw [has_put_other e, ih]
      simp
/-- what k rounds from behind have made -/
def backF (l : List SL) (k : Nat) : DataW Unit := mapF (l.drop (l.length - k)) (l.length - k)
theorem back_zero (l : List SL) : backF l 0 = .map [] := by simp [backF, mapF]
theorem back_all (l : List SL) : backF l l.length = mapF l 0 := by simp [backF]
theorem back_next {l : List SL} {k : Nat} {s : SL} (h : l[l.length - 1 - k]? = some s) (hk : k < l.length) : backF l (k + 1) = (backF l k).put (keyL s) (.lit (.int .i64 ((l.length - 1 - k : Nat) : Int))) := by
  obtain ⟨h1, h2⟩ := List.getElem?_eq_some_iff.1 h
  unfold backF
  rw [show l.length - (k + 1) = l.length - 1 - k from by omega, List.drop_eq_getElem_cons h1, h2, show l.length - k = l.length - 1 - k + 1 from by omega]
  rfl
end Go.Proofs.Ytnalabohhocjaaa.Chg
