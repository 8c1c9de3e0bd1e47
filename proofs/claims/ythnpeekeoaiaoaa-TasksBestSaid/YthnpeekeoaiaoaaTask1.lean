/-
  Tasks: their cells; what is wrong with a list of them. Conditions: the list reads, within the reach.
-/
import Derived.Test.YthnpeekeoaiaoaaRec
import Derived.Test.YthnpeekeoaiaoaaInts
import Derived.Outline
namespace Go.Proofs.Ythnpeekeoaiaoaa.Task
open Go.RowKit Go.Proofs.Ythnpeekeoaiaoaa.W Go.Proofs.Ythnpeekeoaiaoaa.Ints

structure TD where
  name : ByteArray
  per : Int
  off : Int
  cost : Int
  dead : Int
def TD.cs (t : TD) : List Value := [.string t.name, .int .i64 t.per, .int .i64 t.off, .int .i64 t.cost, .int .i64 t.dead]
abbrev taskV (t : TD) : Value := .agg #[.string t.name, .int .i64 t.per, .int .i64 t.off, .int .i64 t.cost, .int .i64 t.dead]
theorem TD.len (t : TD) : t.cs.length = 5 := rfl
abbrev tasksV (ts : List TD) : List Value := ts.flatMap TD.cs
def TD.okB (t : TD) : Bool := decide (1 ≤ t.per) && decide (t.per ≤ 1000000) && decide (1 ≤ t.cost) && decide (t.cost ≤ t.per) && decide (1 ≤ t.dead) && decide (t.dead ≤ t.per) && decide (0 ≤ t.off) && decide (t.off ≤ 1000000)
/-- which task is wrong first -/
def badAt (ts : List TD) : Int := match ts.findIdx? (fun t => !t.okB) with | some k => k | none => -1
theorem bad_some {ts : List TD} {k : Nat} {t : TD} (ht : ts[k]? = some t) (hb : t.okB = false) (h : (ts.take k).all TD.okB = true) : badAt ts = k := by
  have : ts.findIdx? (fun t => !t.okB) = some k := by
    have hk := (List.getElem?_eq_some_iff.1 ht).1
    rw [List.findIdx?_eq_some_iff_getElem]
    refine ⟨hk, ?_, fun j hj => ?_⟩
    · rw [List.getElem?_eq_getElem hk] at ht
      injection ht with ht
      simp [ht, hb]
    · rw [List.all_eq_true] at h
      have := h (ts[j]) (List.mem_take_iff_getElem.2 ⟨j, by omega, rfl⟩)
      simp [this]
  simp [badAt, this]
theorem bad_none {ts : List TD} (h : ts.all TD.okB = true) : badAt ts = -1 := by
  have : ts.findIdx? (fun t => !t.okB) = none := by
    rw [List.findIdx?_eq_none_iff]
    intro x hx
    rw [List.all_eq_true] at h
    simp [h x hx]
  simp [badAt, this]
theorem all_next {ts : List TD} {k : Nat} {t : TD} (ht : ts[k]? = some t) (h : (ts.take k).all TD.okB = true) (hb : t.okB = true) : (ts.take (k + 1)).all TD.okB = true := by
  have hk := (List.getElem?_eq_some_iff.1 ht).1
  rw [List.take_succ_eq_append_getElem hk, List.all_append, h]
  rw [List.getElem?_eq_getElem hk] at ht
  injection ht with ht
  simp [ht, hb]

theorem none_any (t : TD) (w : World) : Calls Try.prog 31 #[taskV t] w fun e w' => e = .returned (.bool (!t.okB)) ∧ Below w.heap.size w w' := by
  obtain ⟨name, per, off, cost, dead⟩ := t
  go_enter Try.func31, Try.ntmps31
  go_wp2
  all_goals go_ret
  all_goals exact ⟨ret_bool (by rw [Bool.eq_iff_iff]; simp [TD.okB]; try omega), below_alloc _⟩

/-- the five cells of a task -/
theorem task_at {w : World} {A : Option Addr} {n : Nat} {ts : List TD} (h : Rd w 5 A n (tasksV ts)) {k : Nat} (hk : k < n) :
    ∃ b o t, A = some ⟨b, o, none⟩ ∧ ts[k]? = some t ∧ b < w.heap.size ∧ w.cell? ⟨b, o + k * 5, none⟩ = some (.string t.name) ∧ w.cell? ⟨b, o + k * 5 + 1, none⟩ = some (.int .i64 t.per) ∧ w.cell? ⟨b, o + k * 5 + 2, none⟩ = some (.int .i64 t.off) ∧
      w.cell? ⟨b, o + k * 5 + 3, none⟩ = some (.int .i64 t.cost) ∧ w.cell? ⟨b, o + k * 5 + 4, none⟩ = some (.int .i64 t.dead) := by
  have hl := Rd.rec_len TD.len (by omega) h
  obtain ⟨b, o, e, hc⟩ := Rd.rec TD.len h (by omega)
  have ht : ts[k]? = some ts[k] := List.getElem?_eq_getElem (by omega)
  have c := hc k _ ht
  have c0 := c 0 _ rfl
  refine ⟨b, o, ts[k], e, ht, lt_of_cell c0, c0, ?_, ?_, ?_, ?_⟩
  · rw [Nat.add_assoc]; exact c 1 _ rfl
  · rw [Nat.add_assoc]; exact c 2 _ rfl
  · rw [Nat.add_assoc]; exact c 3 _ rfl
  · rw [Nat.add_assoc]; exact c 4 _ rfl

set_option maxHeartbeats 1600000 in
theorem IndexFunc_any (A : Option Addr) (n c : Nat) (ts : List TD) (w : World) (hr : Rd w 5 A n (tasksV ts)) (hn : n ≤ 140737488351232) :
    Calls Try.prog 32 #[.slice A n c, .func (.func 31) #[] #[]] w fun e w' => e = .returned (.int .i64 (badAt ts)) ∧ Below w.heap.size w w' := by
  have HL := Lib.hid (Rd.rec_len TD.len (by omega) hr)
  have HR := Lib.hid hr
  clear hr
  go_enter Try.func32, Try.ntmps32
  go_wp2
  go_loopw [5, 8] (fun _ i wr => ∃ k : Nat, k ≤ n ∧ i = .int .i64 k ∧ Hid ((ts.take k).all TD.okB = true) ∧ Hid (Below w.heap.size w wr)) (fun _ i _ => n - (intOf i).toNat)
  case atStart => exact ⟨0, Nat.zero_le _, rfl, by simp [Hid], Below.refl _ _⟩
  case round =>
    obtain ⟨k, hk, rfl, ha, hb⟩ := hrel
    by_cases hlt : k < n
    · obtain ⟨b, o, t, rfl, ht, hbl, c0, c1, c2, c3, c4⟩ := task_at (HR.out.below hb.out) hlt
      have hbs := hb.out.size
      have HT := Lib.hid ht
      clear ht
      cases ho : t.okB
      all_goals have HO := Lib.hid ho
      all_goals clear ho
      all_goals go_wp2_with fail
      all_goals refine (none_any t _).mono ?_
      all_goals rintro e w1 ⟨rfl, hb1⟩
      all_goals rw [HO.out]
      all_goals have HB := Lib.hid (hb.out.trans (hb1.mono hbs))
      all_goals clear hb1
      · go_wp2
        go_ret
        exact ⟨ret_int (by rw [bad_some HT.out HO.out ha.out]), HB.out⟩
      · go_wp2
        go_roundw
        case rel => exact ⟨k + 1, by omega, by go_num, all_next HT.out ha.out HO.out, HB⟩
        case measure => simp [intOf]; omega
    · have hf : (-1 : Int) = badAt ts := by
        have h := ha.out
        rw [List.take_of_length_le (by rw [HL.out]; omega)] at h
        rw [bad_none h]
      have HF := Lib.hid hf
      clear hf
      go_wp2
      go_ret
      exact ⟨ret_int HF.out, hb.out⟩

/-- what is wrong with a list of tasks: the number, and of which task -/
def faultF (ts : List TD) : Int × Int := if ts.length < 1 ∨ 16 < ts.length then (4, 0) else if 0 ≤ badAt ts then (19, badAt ts) else (0, 0)
abbrev faultV (f : Int × Int) : Value := .agg #[.int .i64 f.1, .int .i64 f.2, .int .i64 0]

set_option maxHeartbeats 1600000 in
theorem fault_any (A : Option Addr) (n c : Nat) (ts : List TD) (w : World) (hr : Rd w 5 A n (tasksV ts)) :
    Calls Try.prog 24 #[.slice A n c] w fun e w' => e = .returned (faultV (faultF ts)) ∧ Below w.heap.size w w' := by
  have hl := Rd.rec_len TD.len (by omega) hr
  have HR := Lib.hid hr
  clear hr
  by_cases hg : n < 1 ∨ 16 < n
  · rw [show faultF ts = (4, 0) from by simp only [faultF, hl, if_pos hg]]
    clear hl
    have hg : n = 0 ∨ 16 < n := by omega
    rcases hg with rfl | hg
    all_goals go_enter Try.func24, Try.ntmps24
    all_goals go_wp2
    all_goals refine bodyPost_ret (v := faultV (4, 0)) ?_ rfl ⟨rfl, ?_⟩
    all_goals first | exact below_alloc _ | simp [results, Try.results24, go_sem]
  · have hF : faultF ts = if 0 ≤ badAt ts then (19, badAt ts) else (0, 0) := by simp only [faultF, hl, if_neg hg]
    by_cases hb : 0 ≤ badAt ts
    · rw [hF, if_pos hb]
      generalize hB : badAt ts = B at hb
      have HB := Lib.hid hB
      have h0 : ((n : Int) == 0) = false := by simp; omega
      have h16 : n ≤ 16 := by omega
      clear hB hF hl hg
      go_enter Try.func24, Try.ntmps24
      go_wp2_with fail
      refine (IndexFunc_any A n c ts _ (HR.out.alloc _) (by omega)).mono ?_
      rintro e w1 ⟨rfl, hb1⟩
      rw [HB.out]
      obtain ⟨k1, hb2, z1⟩ := call1 hb1
      have c1 := k1.cell
      have f1 := k1.frozen
      have B1 := Lib.hid hb2
      clear k1 hb1 hb2
      go_wp2
      refine bodyPost_ret (v := faultV (19, B)) ?_ rfl ⟨rfl, ?_⟩
      · simp [results, Try.results24, go_sem, c1]
      · repeat' (first | (with_reducible exact B1.out) | (with_reducible refine Below.setCell ?_ ?_ _; rotate_left; (simp <;> omega)))
    · rw [hF, if_neg hb]
      generalize hB : badAt ts = B at hb
      have HB := Lib.hid hB
      have h0 : ((n : Int) == 0) = false := by simp; omega
      have h16 : n ≤ 16 := by omega
      have hb' : B < 0 := by omega
      clear hB hF hl hg hb
      go_enter Try.func24, Try.ntmps24
      go_wp2_with fail
      refine (IndexFunc_any A n c ts _ (HR.out.alloc _) (by omega)).mono ?_
      rintro e w1 ⟨rfl, hb1⟩
      rw [HB.out]
      obtain ⟨k1, hb2, z1⟩ := call1 hb1
      have c1 := k1.cell
      have f1 := k1.frozen
      have B1 := Lib.hid hb2
      clear k1 hb1 hb2
      go_wp2
      refine bodyPost_ret (v := faultV (0, 0)) ?_ rfl ⟨rfl, ?_⟩
      · simp [results, Try.results24, go_sem, c1]
      · repeat' (first | (with_reducible exact B1.out) | (with_reducible refine Below.setCell ?_ ?_ _; rotate_left; (simp <;> omega)))
end Go.Proofs.Ythnpeekeoaiaoaa.Task
