/-
  The first task of which a job is ready. Conditions: the board's lines read.
-/
import Derived.Test.YthnpeekeoaiaoaaPly1
import Derived.Test.YthnpeekeoaiaoaaMem
namespace Go.Proofs.Ythnpeekeoaiaoaa.Task
open Go.RowKit Go.Proofs.Ythnpeekeoaiaoaa.W Go.Proofs.Ythnpeekeoaiaoaa.Ints

abbrev ldA (l : LD) : Value := .agg #[.int .i64 l.count, .int .i64 l.job, .int .i64 l.left]
def LD.rdy (l : LD) : Bool := decide (0 < l.count)
def fstAt (ls : List LD) : Int := match ls.findIdx? LD.rdy with | some k => k | none => -1
theorem fst_some {ls : List LD} {k : Nat} {l : LD} (hl : ls[k]? = some l) (hb : l.rdy = true) (h : (ls.take k).all (fun l => !l.rdy) = true) : fstAt ls = k := by
  have : ls.findIdx? LD.rdy = some k := by
    have hk := (List.getElem?_eq_some_iff.1 hl).1
    rw [List.findIdx?_eq_some_iff_getElem]
    refine ⟨hk, ?_, fun j hj => ?_⟩
    · rw [List.getElem?_eq_getElem hk] at hl
      injection hl with hl
      rw [hl, hb]
    · rw [List.all_eq_true] at h
      have := h (ls[j]) (List.mem_take_iff_getElem.2 ⟨j, by omega, rfl⟩)
      simpa using this
  simp [fstAt, this]
theorem fst_none {ls : List LD} (h : ls.all (fun l => !l.rdy) = true) : fstAt ls = -1 := by
  have : ls.findIdx? LD.rdy = none := by
    rw [List.findIdx?_eq_none_iff]
    intro x hx
    rw [List.all_eq_true] at h
    simpa using h x hx
  simp [fstAt, this]
theorem all_nextL {ls : List LD} {k : Nat} {l : LD} (hl : ls[k]? = some l) (h : (ls.take k).all (fun l => !l.rdy) = true) (hb : l.rdy = false) : (ls.take (k + 1)).all (fun l => !l.rdy) = true := by
  have hk := (List.getElem?_eq_some_iff.1 hl).1
  rw [List.take_succ_eq_append_getElem hk, List.all_append, h]
  rw [List.getElem?_eq_getElem hk] at hl
  injection hl with hl
  simp [hl, hb]
theorem rdy_any (l : LD) (w : World) : Calls Try.prog 37 #[ldA l] w fun e w' => e = .returned (.bool l.rdy) ∧ Below w.heap.size w w' := by
  obtain ⟨count, job, left⟩ := l
  go_enter Try.func37, Try.ntmps37
  go_wp2
  go_ret
  exact ⟨ret_bool rfl, below_alloc _⟩
theorem ld_at {w : World} {A : Option Addr} {n : Nat} {ls : List LD} (h : Rd w 3 A n (ldV ls)) {k : Nat} (hk : k < n) :
    ∃ b o l, A = some ⟨b, o, none⟩ ∧ ls[k]? = some l ∧ b < w.heap.size ∧ w.cell? ⟨b, o + k * 3, none⟩ = some (.int .i64 l.count) ∧ w.cell? ⟨b, o + k * 3 + 1, none⟩ = some (.int .i64 l.job) ∧ w.cell? ⟨b, o + k * 3 + 2, none⟩ = some (.int .i64 l.left) := by
  have hl := Rd.rec_len LD.len (by omega) h
  obtain ⟨b, o, e, hc⟩ := Rd.rec LD.len h (by omega)
  have ht : ls[k]? = some ls[k] := List.getElem?_eq_getElem (by omega)
  have c := hc k _ ht
  have c0 := c 0 _ rfl
  refine ⟨b, o, ls[k], e, ht, lt_of_cell c0, c0, ?_, ?_⟩
  · rw [Nat.add_assoc]; exact c 1 _ rfl
  · rw [Nat.add_assoc]; exact c 2 _ rfl

set_option maxHeartbeats 1600000 in
theorem IndexLine_any (A : Option Addr) (n c : Nat) (ls : List LD) (w : World) (hr : Rd w 3 A n (ldV ls)) (hn : n ≤ 140737488351232) :
    Calls Try.prog 36 #[.slice A n c, .func (.func 37) #[] #[]] w fun e w' => e = .returned (.int .i64 (fstAt ls)) ∧ Below w.heap.size w w' := by
  have HL := Lib.hid (Rd.rec_len LD.len (by omega) hr)
  have HR := Lib.hid hr
  clear hr
  go_enter Try.func36, Try.ntmps36
  go_wp2
  go_loopw [5, 8] (fun _ i wr => ∃ k : Nat, k ≤ n ∧ i = .int .i64 k ∧ Hid ((ls.take k).all (fun l => !l.rdy) = true) ∧ Hid (Below w.heap.size w wr)) (fun _ i _ => n - (intOf i).toNat)
  case atStart => exact ⟨0, Nat.zero_le _, rfl, by simp [Hid], Below.refl _ _⟩
  case round =>
    obtain ⟨k, hk, rfl, ha, hb⟩ := hrel
    by_cases hlt : k < n
    · obtain ⟨b, o, l, rfl, ht, hbl, c0, c1, c2⟩ := ld_at (HR.out.below hb.out) hlt
      have hbs := hb.out.size
      have HT := Lib.hid ht
      clear ht
      cases ho : l.rdy
      all_goals have HO := Lib.hid ho
      all_goals clear ho
      all_goals go_wp2_with fail
      all_goals refine (rdy_any l _).mono ?_
      all_goals rintro e w1 ⟨rfl, hb1⟩
      all_goals rw [HO.out]
      all_goals have HB := Lib.hid (hb.out.trans (hb1.mono hbs))
      all_goals clear hb1
      · go_wp2
        go_roundw
        case rel => exact ⟨k + 1, by omega, by go_num, all_nextL HT.out ha.out HO.out, HB⟩
        case measure => simp [intOf]; omega
      · go_wp2
        go_ret
        exact ⟨ret_int (by rw [fst_some HT.out HO.out ha.out]), HB.out⟩
    · have hf : (-1 : Int) = fstAt ls := by
        have h := ha.out
        rw [List.take_of_length_le (by rw [HL.out]; omega)] at h
        rw [fst_none h]
      have HF := Lib.hid hf
      clear hf
      go_wp2
      go_ret
      exact ⟨ret_int HF.out, hb.out⟩
theorem first_any (g : Nat) (A : Option Addr) (n c : Nat) (ls : List LD) (w : World) (hg : w.cell? ⟨g, 1, none⟩ = some (.slice A n c)) (hr : Rd w 3 A n (ldV ls)) (hn : n ≤ 140737488351232) :
    Calls Try.prog 34 #[.pointer (some ⟨g, 0, none⟩)] w fun e w' => e = .returned (.int .i64 (fstAt ls)) ∧ Below w.heap.size w w' := by
  have HR := Lib.hid hr
  clear hr
  go_enter Try.func34, Try.ntmps34
  go_wp2_with fail
  refine (IndexLine_any A n c ls _ HR.out hn).mono ?_
  rintro e w1 ⟨rfl, hb⟩
  have HB := Lib.hid hb
  clear hb
  go_wp2
  go_ret
  exact ⟨rfl, HB.out⟩
/-- the board's first is the plain one -/
theorem fst_line {ts : List TD} (ha : ts.all TD.okB = true) {D R : List Int} {n : Int} (hR : ∀ i, i < ts.length → relF ts i n = R.getD i 0) :
    fstAt (lineF ts D R) = (match firstF ts D n with | some k => (k : Int) | none => -1) := by
  have hp : ∀ i, i < ts.length → (lineAt ts D R i).rdy = readyB ts D n i := fun i hi => (ready_is ha (hR i hi)).symm
  rcases hf : firstF ts D n with _ | k
  · refine fst_none ?_
    rw [List.all_eq_true]
    intro l hl
    obtain ⟨i, hi, rfl⟩ := List.mem_map.1 hl
    have hi := List.mem_range.1 hi
    rw [hp i hi]
    unfold firstF at hf
    rw [List.find?_eq_none] at hf
    have := hf i (List.mem_range.2 hi)
    simpa using this
  · obtain ⟨h1, h2, h3⟩ := first_inv hf
    refine fst_some (line_at h1 D R) (by rw [hp k h1]; exact h2) ?_
    rw [List.all_eq_true]
    intro l hl
    obtain ⟨i, hi, e⟩ := List.mem_take_iff_getElem.1 hl
    have hi' : i < k := by omega
    have e2 : (lineF ts D R)[i]? = some l := by rw [List.getElem?_eq_getElem (by omega), e]
    rw [line_at (by omega)] at e2
    injection e2 with e2
    rw [← e2, hp i (by omega), h3 i hi']
    rfl
end Go.Proofs.Ythnpeekeoaiaoaa.Task
