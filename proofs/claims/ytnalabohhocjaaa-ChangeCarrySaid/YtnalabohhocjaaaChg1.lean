/-
  What carrying over means, plain. No conditions.
-/
import Derived.Test.YtnalabohhocjaaaCod1
import Derived.Laws.CopyOwn
namespace Go.Proofs.Ytnalabohhocjaaa.Chg
open Go.RowKit Go.Proofs.Ytnalabohhocjaaa.W Go.Proofs.Ytnalabohhocjaaa.Ints Go.Proofs.Ytnalabohhocjaaa.Cod

/-- may a slot be, in a frame of n words? -/
def slotB (n : Nat) (s : SL) : Bool := decide (0 ≤ s.len) && decide (s.len ≤ n) && decide (0 ≤ s.at_) && decide (s.at_ < n) && decide (s.at_ + s.len ≤ n)
def carrB (p : PD) : Bool := decide (p.first.length ≤ 20000) && decide (p.slots.length ≤ 20000) && p.slots.all (slotB p.first.length)
def alike (t s : SL) : Bool := t.path.toList == s.path.toList && (t.kind == s.kind && t.len == s.len)
def knownF (l : List SL) (s : SL) : Option Nat := l.findIdx? (fun t => alike t s)
def knownI (l : List SL) (s : SL) : Int := match knownF l s with | some k => (k : Int) | none => -1
def wordsF (s : SL) : Nat := (max s.len 1).toNat
def strangeF (l m : List SL) : List ByteArray := (l.filter fun s => (knownF m s).isNone).map SL.path
def wordsAt (f : List Int) (a n : Nat) : List Int := (f.drop a).take n
def putF (F : List Int) (off : Nat) (xs : List Int) : List Int := F.take off ++ xs ++ F.drop (off + xs.length)
def carry1 (ol : List SL) (frame : List Int) (F : List Int) (s : SL) : List Int := match knownF ol s with
  | none => F
  | some k => putF F s.at_.toNat (wordsAt frame ((ol[k]?.map SL.at_).getD 0).toNat (wordsF s))
def carryF (ol : List SL) (frame : List Int) (F : List Int) (nl : List SL) : List Int := nl.foldl (carry1 ol frame) F
theorem carryF_snoc (ol : List SL) (frame F : List Int) (nl : List SL) (k : Nat) (s : SL) (h : nl[k]? = some s) : carryF ol frame F (nl.take (k + 1)) = carry1 ol frame (carryF ol frame F (nl.take k)) s := by
  have e : nl.take (k + 1) = nl.take k ++ [s] := by rw [List.take_add_one, h]; rfl
  unfold carryF
  rw [e, List.foldl_append]
  rfl
theorem strange_snoc (l m : List SL) (k : Nat) (s : SL) (h : l[k]? = some s) : strangeF (l.take (k + 1)) m = strangeF (l.take k) m ++ (if (knownF m s).isNone then [s.path] else []) := by
  have e : l.take (k + 1) = l.take k ++ [s] := by rw [List.take_add_one, h]; rfl
  unfold strangeF
  rw [e, List.filter_append, List.map_append]
  by_cases hk : (knownF m s).isNone = true
  · simp [hk]
  · simp [hk]
theorem slot_parts {n : Nat} {s : SL} (h : slotB n s = true) : 0 ≤ s.len ∧ s.len ≤ n ∧ 0 ≤ s.at_ ∧ s.at_ < n ∧ s.at_ + s.len ≤ n := by
  simp only [slotB, Bool.and_eq_true, decide_eq_true_eq] at h
  exact ⟨h.1.1.1.1, h.1.1.1.2, h.1.1.2, h.1.2, h.2⟩
theorem words_fit {n : Nat} {s : SL} (h : slotB n s = true) : s.at_.toNat + wordsF s ≤ n ∧ 1 ≤ wordsF s := by
  have := slot_parts h
  unfold wordsF
  omega
theorem known_some {l : List SL} {s : SL} {k : Nat} (h : knownF l s = some k) : ∃ t, l[k]? = some t ∧ alike t s = true := by
  unfold knownF at h
  obtain ⟨hk, h1, _⟩ := List.findIdx?_eq_some_iff_getElem.1 h
  exact ⟨l[k], List.getElem?_eq_getElem hk, h1⟩
theorem alike_len {t s : SL} (h : alike t s = true) : t.len = s.len := by
  simp only [alike, Bool.and_eq_true, beq_iff_eq] at h
  exact h.2.2
theorem words_len {t s : SL} (h : alike t s = true) : wordsF t = wordsF s := by unfold wordsF; rw [alike_len h]
theorem known_step {l : List SL} {s t : SL} {k : Nat} (ht : l[k]? = some t) (h : ∀ j u, j < k → l[j]? = some u → alike u s = false) (ha : alike t s = true) : knownF l s = some k := by
  have hk := (List.getElem?_eq_some_iff.1 ht).1
  unfold knownF
  rw [List.findIdx?_eq_some_iff_getElem]
  refine ⟨hk, ?_, fun j hj => ?_⟩
  · rw [List.getElem?_eq_getElem hk] at ht
    injection ht with ht
    rw [ht]
    exact ha
  · rw [h j _ hj (List.getElem?_eq_getElem (by omega))]
    exact Bool.false_ne_true
theorem known_none {l : List SL} {s : SL} (h : ∀ (j : Nat) (u : SL), l[j]? = some u → alike u s = false) : knownF l s = none := by
  unfold knownF
  rw [List.findIdx?_eq_none_iff]
  intro x hx
  obtain ⟨j, hj, rfl⟩ := List.getElem_of_mem hx
  exact h j _ (List.getElem?_eq_getElem hj)
theorem put_len {F : List Int} {off : Nat} {xs : List Int} (h : off + xs.length ≤ F.length) : (putF F off xs).length = F.length := by
  simp [putF]
  omega
/-- one word more of what is put -/
theorem put_next {F : List Int} {off j : Nat} {f : List Int} {a : Nat} {x : Int} (hF : off + j < F.length) (hx : f[a + j]? = some x) : (putF F off (wordsAt f a j)).set (off + j) x = putF F off (wordsAt f a (j + 1)) := by
  have hj := (List.getElem?_eq_some_iff.1 hx).1
  have e1 : (wordsAt f a j).length = j := by simp [wordsAt]; omega
  have e2 : wordsAt f a (j + 1) = wordsAt f a j ++ [x] := by
    unfold wordsAt
    rw [List.take_add_one, List.getElem?_drop, hx]
    rfl
  have e3 : (F.take off).length = off := by simp; omega
  have e4 : F.drop (off + j) = F[off + j] :: F.drop (off + (j + 1)) := by
    rw [show off + (j + 1) = off + j + 1 from by omega]
    exact List.drop_eq_getElem_cons hF
  unfold putF
  rw [e2, List.length_append, e1, List.length_singleton, e4, List.append_assoc, List.set_append_right _ _ (by omega), e3, show off + j - off = j from by omega, List.set_append_right _ _ (by omega), e1, Nat.sub_self, List.set_cons_zero]
  simp
theorem put_zero (F : List Int) (off : Nat) (f : List Int) (a : Nat) : putF F off (wordsAt f a 0) = F := by simp [putF, wordsAt]
theorem carry_len {ol : List SL} {frame F : List Int} {s : SL} (hs : slotB F.length s = true) (ho : ∀ t ∈ ol, slotB frame.length t = true) : (carry1 ol frame F s).length = F.length := by
  unfold carry1
  cases hk : knownF ol s with
  | none => rfl
  | some k =>
    obtain ⟨t, ht, ha⟩ := known_some hk
    have h1 := words_fit hs
    have h2 := words_fit (ho t (List.mem_of_getElem? ht))
    rw [words_len ha] at h2
    refine put_len ?_
    simp only [wordsAt, ht, Option.map_some, Option.getD_some, List.length_take, List.length_drop]
    omega
end Go.Proofs.Ytnalabohhocjaaa.Chg
