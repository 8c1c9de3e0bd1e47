/-
  A guard: its cells; what is wrong with it; its votes as sets. Conditions: the guard reads, within the reach.
-/
import Derived.Test.YtdofkakbfolpkaaSf2
import Derived.RegionTactic
import Derived.BigRegion
namespace Go.Proofs.Ytdofkakbfolpkaa.Sf
open Go.RowKit Go.Proofs.Ytdofkakbfolpkaa.W Go.Proofs.Ytdofkakbfolpkaa.Ints Go.Proofs.Ytdofkakbfolpkaa.Pop

theorem set_info : (Try.prog.info? 59).map (fun i => (i.zero, i.size, i.bytes)) = some (some (.int .u64 0), 1, 8) := by kernel_rfl
theorem vote_info : (Try.prog.info? 50).map (fun i => (i.zero, i.size, i.bytes)) = some (some (.agg #[.int .i64 0, .slice none 0 0]), 2, 32) := by kernel_rfl
/-- a vote as it lies -/
structure VD where
  need : Int
  A : Option Addr
  n : Nat
  c : Nat
  of : List Int
def VD.cs (v : VD) : List Value := [.int .i64 v.need, .slice v.A v.n v.c]
theorem VD.len (v : VD) : v.cs.length = 2 := rfl
/-- a vote, plainly -/
def VD.pl (v : VD) : Int × List Int := (v.need, v.of)
abbrev votesV (vs : List VD) : List Value := vs.flatMap VD.cs
/-- the votes read -/
def GRd (w : World) (Q : Option Addr) (m : Nat) (vs : List VD) : Prop := Rd w 2 Q m (votesV vs) ∧ ∀ v ∈ vs, Rd w 1 v.A v.n (ints v.of) ∧ v.n * 8 ≤ 140737488351232 ∧ v.n ≤ v.c
theorem GRd.below {w w' : World} {Q : Option Addr} {m : Nat} {vs : List VD} (h : GRd w Q m vs) (hb : Below w.heap.size w w') : GRd w' Q m vs :=
  ⟨h.1.below hb, fun v hv => ⟨(h.2 v hv).1.below hb, (h.2 v hv).2⟩⟩
theorem GRd.alloc {w : World} {Q : Option Addr} {m : Nat} {vs : List VD} (h : GRd w Q m vs) (o : Obj) : GRd (w.alloc o) Q m vs := h.below (below_alloc o)
theorem GRd.len {w : World} {Q : Option Addr} {m : Nat} {vs : List VD} (h : GRd w Q m vs) : vs.length = m := Rd.rec_len VD.len (by omega) h.1
theorem vote_at {w : World} {Q : Option Addr} {m : Nat} {vs : List VD} (h : GRd w Q m vs) {k : Nat} (hk : k < m) :
    ∃ b o v, Q = some ⟨b, o, none⟩ ∧ vs[k]? = some v ∧ b < w.heap.size ∧ w.cell? ⟨b, o + k * 2, none⟩ = some (.int .i64 v.need) ∧ w.cell? ⟨b, o + k * 2 + 1, none⟩ = some (.slice v.A v.n v.c) ∧
      Rd w 1 v.A v.n (ints v.of) ∧ v.n * 8 ≤ 140737488351232 ∧ v.n ≤ v.c := by
  have hl := h.len
  obtain ⟨b, o, e, hc⟩ := Rd.rec VD.len h.1 (by omega)
  have ht : vs[k]? = some vs[k] := List.getElem?_eq_getElem (by omega)
  have c := hc k _ ht
  have c0 := c 0 _ rfl
  refine ⟨b, o, vs[k], e, ht, lt_of_cell c0, c0, ?_, h.2 _ (List.getElem_mem _)⟩
  rw [Nat.add_assoc]; exact c 1 _ rfl

/-! ### what is wrong, plainly -/
def badV (m : Int) (p : Int × List Int) : Bool := codeF m p.1 p.2 != 0
def badAt (m : Int) (ps : List (Int × List Int)) : Option Nat := ps.findIdx? (badV m)
def sizeBad (m : Int) (ps : List (Int × List Int)) : Prop := m < 1 ∨ 64 < m ∨ ps.length = 0 ∨ 16 < ps.length
instance (m : Int) (ps : List (Int × List Int)) : Decidable (sizeBad m ps) := by unfold sizeBad; infer_instance
def guardF (m d : Int) (ps : List (Int × List Int)) : Int × Int :=
  if sizeBad m ps then (4, 0) else if d < 0 ∨ 1000 < d then (3, 0) else
    match badAt m ps with
    | some k => (codeF m (ps.getD k (0, [])).1 (ps.getD k (0, [])).2, (k : Int))
    | none => (0, 0)
def setsF (m d : Int) (ps : List (Int × List Int)) : List Nat := if (guardF m d ps).1 = 0 then ps.map fun p => setF p.2 else []
abbrev faultV (f : Int × Int) : Value := .agg #[.int .i64 f.1, .int .i64 f.2, .int .i64 0]
abbrev setV (n : Nat) : Value := .int .u64 (n : Int)
theorem bad_some {m : Int} {ps : List (Int × List Int)} {k : Nat} {p : Int × List Int} (ht : ps[k]? = some p) (hb : badV m p = true) (h : (ps.take k).any (badV m) = false) : badAt m ps = some k := by
  have hk := (List.getElem?_eq_some_iff.1 ht).1
  unfold badAt
  rw [List.findIdx?_eq_some_iff_getElem]
  rw [List.getElem?_eq_getElem hk] at ht
  injection ht with ht
  refine ⟨hk, by rw [ht]; exact hb, fun j hj => ?_⟩
  rw [List.any_eq_false] at h
  exact h _ (List.mem_take_iff_getElem.2 ⟨j, by omega, rfl⟩)
theorem bad_none {m : Int} {ps : List (Int × List Int)} (h : ps.any (badV m) = false) : badAt m ps = none := by
  unfold badAt
  rw [List.findIdx?_eq_none_iff]
  intro x hx
  rw [List.any_eq_false] at h
  simpa using h x hx
theorem bad_next {m : Int} {ps : List (Int × List Int)} {k : Nat} {p : Int × List Int} (ht : ps[k]? = some p) (h : (ps.take k).any (badV m) = false) (hb : badV m p = false) : (ps.take (k + 1)).any (badV m) = false := by
  have hk := (List.getElem?_eq_some_iff.1 ht).1
  rw [List.getElem?_eq_getElem hk] at ht
  injection ht with ht
  rw [List.take_succ_eq_append_getElem hk, List.any_append, h, ht]
  simpa using hb
theorem code_ne (m need : Int) (xs : List Int) : codeF m need xs ≠ 0 → 0 < codeF m need xs := by
  intro h
  unfold codeF at h ⊢
  split
  · omega
  · split
    · omega
    · split
      · split
        · omega
        · simp_all
      · omega
theorem guard_bad {m d : Int} {ps : List (Int × List Int)} {k : Nat} {p : Int × List Int} (h1 : ¬ sizeBad m ps) (h2 : ¬ (d < 0 ∨ 1000 < d)) (ht : ps[k]? = some p) (hb : badV m p = true) (h : (ps.take k).any (badV m) = false) :
    guardF m d ps = (codeF m p.1 p.2, (k : Int)) ∧ setsF m d ps = [] := by
  have hg : guardF m d ps = (codeF m p.1 p.2, (k : Int)) := by
    unfold guardF
    rw [if_neg h1, if_neg h2, bad_some ht hb h]
    simp [List.getD_eq_getElem?_getD, ht]
  refine ⟨hg, ?_⟩
  unfold setsF
  rw [hg, if_neg]
  simpa [badV] using hb
theorem guard_ok {m d : Int} {ps : List (Int × List Int)} (h1 : ¬ sizeBad m ps) (h2 : ¬ (d < 0 ∨ 1000 < d)) (h : ps.any (badV m) = false) : guardF m d ps = (0, 0) ∧ setsF m d ps = ps.map fun p => setF p.2 := by
  have hg : guardF m d ps = (0, 0) := by
    unfold guardF
    rw [if_neg h1, if_neg h2, bad_none h]
  refine ⟨hg, ?_⟩
  unfold setsF
  rw [hg, if_pos rfl]
theorem pl_at {vs : List VD} {k : Nat} {v : VD} (h : vs[k]? = some v) : (vs.map VD.pl)[k]? = some v.pl := by simp [h]

def SetsT (w w' : World) (e : Ending) (m d : Int) (ps : List (Int × List Int)) : Prop :=
  ∃ B c, e = .returned (.tuple #[.slice B (setsF m d ps).length c, faultV (guardF m d ps)]) ∧ w'.ownsRow w.heap.size 59 1 (.slice B (setsF m d ps).length c) (setsF m d ps).length ((setsF m d ps).map setV) ∧ Below w.heap.size w w'
theorem sets_nil {w w' : World} {m d : Int} {ps : List (Int × List Int)} {f : Int × Int} (h1 : guardF m d ps = f) (h2 : setsF m d ps = []) (hb : Below w.heap.size w w') : SetsT w w' (.returned (.tuple #[.slice none 0 0, faultV f])) m d ps := by
  subst h1
  refine ⟨none, 0, ?_, ?_, hb⟩
  · simp only [h2, List.length_nil]
  · simp only [h2, List.length_nil, List.map_nil]
    exact World.ownsRow_nil _ _ _ _
/-- the sets of the first votes, as they lie -/
def setsTo (vs : List VD) (k : Nat) : List Value := ((vs.map VD.pl).take k).map fun p => setV (setF p.2)
theorem sets_take {vs : List VD} {k : Nat} {v : VD} (h : vs[k]? = some v) : setsTo vs (k + 1) = setsTo vs k ++ [setV (setF v.of)] := by
  have h' := pl_at h
  have hk := (List.getElem?_eq_some_iff.1 h').1
  unfold setsTo
  rw [List.take_succ_eq_append_getElem hk, List.map_append]
  rw [List.getElem?_eq_getElem hk] at h'
  injection h' with h'
  rw [h']
  rfl
theorem sets_all {vs : List VD} {k : Nat} (h : vs.length ≤ k) : setsTo vs k = ((vs.map VD.pl).map fun p => setF p.2).map setV := by
  unfold setsTo
  rw [List.take_of_length_le (by simpa using h)]
  simp only [List.map_map]
  rfl
theorem set_size {m : Int} {p : Int × List Int} (hm : m ≤ 64) (h : badV m p = false) : setF p.2 < 18446744073709551616 := by
  have h0 : codeF m p.1 p.2 = 0 := by simpa [badV] using h
  unfold codeF at h0
  split at h0
  · simp at h0
  · split at h0
    · simp at h0
    · rename_i h1
      exact setF_lt hm (in_of_not_any (by simpa using h1))
end Go.Proofs.Ytdofkakbfolpkaa.Sf
