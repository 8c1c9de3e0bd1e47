/-
  Code as data: its procs, their slots and instructions; how an argument of these types reads. Conditions: plain lemmas.
-/
import Derived.Test.YtiogcbckhaknmaaDoorInts
import Derived.Test.YtiogcbckhaknmaaDoorRecs
import Derived.Test.YtiogcbckhaknmaaDoorO
namespace Go.Proofs.YtiogcbckhaknmaaDoor.Cod
open Go.RowKit Go.Proofs.YtiogcbckhaknmaaDoor.W Go.Proofs.YtiogcbckhaknmaaDoor.Ints

def I64 (x : Int) : Prop := -9223372036854775808 ≤ x ∧ x ≤ 9223372036854775807
/-- a slot -/
structure SL where
  path : ByteArray
  kind : Int
  at_ : Int
  len : Int
  keep : Bool
  role : Int
def SL.cs (s : SL) : List Value := [.string s.path, .int .i64 s.kind, .int .i64 s.at_, .int .i64 s.len, .bool s.keep, .int .i64 s.role]
theorem SL.size (s : SL) : s.cs.length = 6 := rfl
def SL.ok (s : SL) : Prop := s.path.size ≤ reachBytes ∧ I64 s.kind ∧ I64 s.at_ ∧ I64 s.len ∧ I64 s.role
/-- an instruction -/
structure IN where
  op : Int
  a : Int
  b : Int
  c : Int
deriving DecidableEq
def IN.cs (i : IN) : List Value := [.int .i64 i.op, .int .i64 i.a, .int .i64 i.b, .int .i64 i.c]
theorem IN.size (i : IN) : i.cs.length = 4 := rfl
def IN.ok (i : IN) : Prop := I64 i.op ∧ I64 i.a ∧ I64 i.b ∧ I64 i.c
abbrev slotsV (l : List SL) : List Value := l.flatMap SL.cs
abbrev textV (l : List IN) : List Value := l.flatMap IN.cs
/-- a proc -/
structure PD where
  kind : Int
  name : ByteArray
  first : List Int
  slots : List SL
  text : List IN
def PD.ok (p : PD) : Prop := I64 p.kind ∧ p.name.size ≤ reachBytes ∧ (∀ x ∈ p.first, I64 x) ∧ (∀ s ∈ p.slots, s.ok) ∧ (∀ i ∈ p.text, i.ok) ∧ p.first.length * 8 ≤ 140737488351232 ∧ p.slots.length * 56 ≤ 140737488351232 ∧ p.text.length * 32 ≤ 140737488351232
/-- a proc's cells -/
structure PV where
  kind : Int
  name : ByteArray
  fA : Option Addr
  fn : Nat
  fc : Nat
  sA : Option Addr
  sn : Nat
  sc : Nat
  tA : Option Addr
  tn : Nat
  tc : Nat
def PV.cs (v : PV) : List Value := [.int .i64 v.kind, .string v.name, .slice v.fA v.fn v.fc, .slice v.sA v.sn v.sc, .slice v.tA v.tn v.tc]
theorem PV.size (v : PV) : v.cs.length = 5 := rfl
abbrev PV.val (v : PV) : Value := .agg #[.int .i64 v.kind, .string v.name, .slice v.fA v.fn v.fc, .slice v.sA v.sn v.sc, .slice v.tA v.tn v.tc]
abbrev procsV (l : List PV) : List Value := l.flatMap PV.cs
/-- a proc reads -/
structure PRd (w : World) (v : PV) (p : PD) : Prop where
  kind : v.kind = p.kind
  name : v.name = p.name
  first : Rd w 1 v.fA v.fn (ints p.first)
  slots : Rd w 6 v.sA v.sn (slotsV p.slots)
  text : Rd w 4 v.tA v.tn (textV p.text)
theorem PRd.below {w w' : World} {v : PV} {p : PD} (h : PRd w v p) (hb : Below w.heap.size w w') : PRd w' v p :=
  ⟨h.kind, h.name, h.first.below hb, h.slots.below hb, h.text.below hb⟩
theorem PRd.fl {w : World} {v : PV} {p : PD} (h : PRd w v p) : p.first.length = v.fn := rd_len h.first
theorem PRd.sl {w : World} {v : PV} {p : PD} (h : PRd w v p) : p.slots.length = v.sn := Rd.rec_len SL.size (by omega) h.slots
theorem PRd.tl {w : World} {v : PV} {p : PD} (h : PRd w v p) : p.text.length = v.tn := Rd.rec_len IN.size (by omega) h.text
/-- code reads -/
structure CRd (w : World) (A : Option Addr) (n : Nat) (vs : List PV) (ps : List PD) : Prop where
  row : Rd w 5 A n (procsV vs)
  len : ps.length = n
  each : ∀ (i : Nat) (v : PV) (p : PD), vs[i]? = some v → ps[i]? = some p → PRd w v p
theorem CRd.below {w w' : World} {A : Option Addr} {n : Nat} {vs : List PV} {ps : List PD} (h : CRd w A n vs ps) (hb : Below w.heap.size w w') : CRd w' A n vs ps :=
  ⟨h.row.below hb, h.len, fun i v p hv hp => (h.each i v p hv hp).below hb⟩
theorem CRd.vlen {w : World} {A : Option Addr} {n : Nat} {vs : List PV} {ps : List PD} (h : CRd w A n vs ps) : vs.length = n := Rd.rec_len PV.size (by omega) h.row
/-- the i-th proc -/
theorem CRd.at {w : World} {A : Option Addr} {n : Nat} {vs : List PV} {ps : List PD} (h : CRd w A n vs ps) {k : Nat} (hk : k < n) :
    ∃ b o v p, A = some ⟨b, o, none⟩ ∧ vs[k]? = some v ∧ ps[k]? = some p ∧ PRd w v p ∧ b < w.heap.size ∧ w.cell? ⟨b, o + k * 5, none⟩ = some (.int .i64 v.kind) ∧ w.cell? ⟨b, o + k * 5 + 1, none⟩ = some (.string v.name) ∧ w.cell? ⟨b, o + k * 5 + 2, none⟩ = some (.slice v.fA v.fn v.fc) ∧ w.cell? ⟨b, o + k * 5 + 3, none⟩ = some (.slice v.sA v.sn v.sc) ∧ w.cell? ⟨b, o + k * 5 + 4, none⟩ = some (.slice v.tA v.tn v.tc) := by
  have hl := h.vlen
  obtain ⟨b, o, e, hc⟩ := Rd.rec PV.size h.row (by omega)
  have hv : vs[k]? = some vs[k] := List.getElem?_eq_getElem (by omega)
  have hp : ps[k]? = some (ps[k]'(by rw [h.len]; omega)) := List.getElem?_eq_getElem (by rw [h.len]; omega)
  have c := hc k _ hv
  have c0 := c 0 _ rfl
  refine ⟨b, o, vs[k], _, e, hv, hp, h.each k _ _ hv hp, lt_of_cell c0, c0, ?_, ?_, ?_, ?_⟩
  · rw [Nat.add_assoc]; exact c 1 _ rfl
  · rw [Nat.add_assoc]; exact c 2 _ rfl
  · rw [Nat.add_assoc]; exact c 3 _ rfl
  · rw [Nat.add_assoc]; exact c 4 _ rfl
/-- the k-th slot -/
theorem slot_at {w : World} {A : Option Addr} {n : Nat} {l : List SL} (h : Rd w 6 A n (slotsV l)) {k : Nat} (hk : k < n) :
    ∃ b o s, A = some ⟨b, o, none⟩ ∧ l[k]? = some s ∧ b < w.heap.size ∧ w.cell? ⟨b, o + k * 6, none⟩ = some (.string s.path) ∧ w.cell? ⟨b, o + k * 6 + 1, none⟩ = some (.int .i64 s.kind) ∧ w.cell? ⟨b, o + k * 6 + 2, none⟩ = some (.int .i64 s.at_) ∧ w.cell? ⟨b, o + k * 6 + 3, none⟩ = some (.int .i64 s.len) ∧ w.cell? ⟨b, o + k * 6 + 4, none⟩ = some (.bool s.keep) ∧ w.cell? ⟨b, o + k * 6 + 5, none⟩ = some (.int .i64 s.role) := by
  have hl := Rd.rec_len SL.size (by omega) h
  obtain ⟨b, o, e, hc⟩ := Rd.rec SL.size h (by omega)
  have hv : l[k]? = some l[k] := List.getElem?_eq_getElem (by omega)
  have c := hc k _ hv
  have c0 := c 0 _ rfl
  refine ⟨b, o, l[k], e, hv, lt_of_cell c0, c0, ?_, ?_, ?_, ?_, ?_⟩
  · rw [Nat.add_assoc]; exact c 1 _ rfl
  · rw [Nat.add_assoc]; exact c 2 _ rfl
  · rw [Nat.add_assoc]; exact c 3 _ rfl
  · rw [Nat.add_assoc]; exact c 4 _ rfl
  · rw [Nat.add_assoc]; exact c 5 _ rfl
/-- the k-th instruction -/
theorem instr_at {w : World} {A : Option Addr} {n : Nat} {l : List IN} (h : Rd w 4 A n (textV l)) {k : Nat} (hk : k < n) :
    ∃ b o s, A = some ⟨b, o, none⟩ ∧ l[k]? = some s ∧ b < w.heap.size ∧ w.cell? ⟨b, o + k * 4, none⟩ = some (.int .i64 s.op) ∧ w.cell? ⟨b, o + k * 4 + 1, none⟩ = some (.int .i64 s.a) ∧ w.cell? ⟨b, o + k * 4 + 2, none⟩ = some (.int .i64 s.b) ∧ w.cell? ⟨b, o + k * 4 + 3, none⟩ = some (.int .i64 s.c) := by
  have hl := Rd.rec_len IN.size (by omega) h
  obtain ⟨b, o, e, hc⟩ := Rd.rec IN.size h (by omega)
  have hv : l[k]? = some l[k] := List.getElem?_eq_getElem (by omega)
  have c := hc k _ hv
  have c0 := c 0 _ rfl
  refine ⟨b, o, l[k], e, hv, lt_of_cell c0, c0, ?_, ?_, ?_⟩
  · rw [Nat.add_assoc]; exact c 1 _ rfl
  · rw [Nat.add_assoc]; exact c 2 _ rfl
  · rw [Nat.add_assoc]; exact c 3 _ rfl

/-! ### how the arguments open -/
theorem six_of {cs : List Value} (h : cs.length = 6) : ∃ a b c d e f, cs = [a, b, c, d, e, f] := by
  match cs, h with
  | [a, b, c, d, e, f], _ => exact ⟨a, b, c, d, e, f, rfl⟩
theorem five_of {cs : List Value} (h : cs.length = 5) : ∃ a b c d e, cs = [a, b, c, d, e] := by
  match cs, h with
  | [a, b, c, d, e], _ => exact ⟨a, b, c, d, e, rfl⟩
theorem four_of {cs : List Value} (h : cs.length = 4) : ∃ a b c d, cs = [a, b, c, d] := by
  match cs, h with
  | [a, b, c, d], _ => exact ⟨a, b, c, d, rfl⟩
section
variable {H : Type} {enc : TypeId × Value → H} {w : World}
theorem slot_in {cs : List Value} (h : O.Op enc Tryd.prog w 61 cs) : ∃ x : SL, cs = x.cs ∧ x.ok := by
  obtain ⟨hl, hf⟩ := h.struct Tryd.underlying61
  obtain ⟨c0, c1, c2, c3, c4, c5, rfl⟩ := six_of (hl.trans (by kernel_rfl))
  obtain ⟨s, e0, h0⟩ := (hf 0 _ rfl).string Tryd.underlying9
  obtain ⟨k, e1, h1, h1'⟩ := (hf 1 _ rfl).i64 Tryd.underlying58
  obtain ⟨a, e2, h2, h2'⟩ := (hf 2 _ rfl).i64 Tryd.underlying3
  obtain ⟨l, e3, h3, h3'⟩ := (hf 3 _ rfl).i64 Tryd.underlying3
  obtain ⟨b, e4⟩ := (hf 4 _ rfl).bool Tryd.underlying4
  obtain ⟨r, e5, h5, h5'⟩ := (hf 5 _ rfl).i64 Tryd.underlying59
  have k1 : Tryd.prog.cellsOf 3 = 1 := by kernel_rfl
  have k2 : Tryd.prog.cellsOf 9 = 1 := by kernel_rfl
  have k3 : Tryd.prog.cellsOf 4 = 1 := by kernel_rfl
  have k4 : Tryd.prog.cellsOf 58 = 1 := by kernel_rfl
  have k5 : Tryd.prog.cellsOf 59 = 1 := by kernel_rfl
  simp [k1, k2, k3, k4, k5] at e0 e1 e2 e3 e4 e5
  subst e0 e1 e2 e3 e4 e5
  exact ⟨⟨s, k, a, l, b, r⟩, rfl, h0, ⟨h1, h1'⟩, ⟨h2, h2'⟩, ⟨h3, h3'⟩, ⟨h5, h5'⟩⟩
theorem instr_in {cs : List Value} (h : O.Op enc Tryd.prog w 50 cs) : ∃ x : IN, cs = x.cs ∧ x.ok := by
  obtain ⟨hl, hf⟩ := h.struct Tryd.underlying50
  obtain ⟨c0, c1, c2, c3, rfl⟩ := four_of (hl.trans (by kernel_rfl))
  obtain ⟨o, e0, h0, h0'⟩ := (hf 0 _ rfl).i64 Tryd.underlying48
  obtain ⟨a, e1, h1, h1'⟩ := (hf 1 _ rfl).i64 Tryd.underlying3
  obtain ⟨b, e2, h2, h2'⟩ := (hf 2 _ rfl).i64 Tryd.underlying3
  obtain ⟨c, e3, h3, h3'⟩ := (hf 3 _ rfl).i64 Tryd.underlying3
  have k1 : Tryd.prog.cellsOf 3 = 1 := by kernel_rfl
  have k2 : Tryd.prog.cellsOf 48 = 1 := by kernel_rfl
  simp [k1, k2] at e0 e1 e2 e3
  subst e0 e1 e2 e3
  exact ⟨⟨o, a, b, c⟩, rfl, ⟨h0, h0'⟩, ⟨h1, h1'⟩, ⟨h2, h2'⟩, ⟨h3, h3'⟩⟩
theorem proc_in {cs : List Value} (h : O.Op enc Tryd.prog w 43 cs) : ∃ v : PV, cs = v.cs ∧ ∃ p : PD, PRd w v p ∧ p.ok := by
  obtain ⟨hl, hf⟩ := h.struct Tryd.underlying43
  obtain ⟨c0, c1, c2, c3, c4, rfl⟩ := five_of (hl.trans (by kernel_rfl))
  obtain ⟨k, e0, h0, h0'⟩ := (hf 0 _ rfl).i64 Tryd.underlying39
  obtain ⟨s, e1, h1⟩ := (hf 1 _ rfl).string Tryd.underlying9
  obtain ⟨A, n, c, zs, e2, hnc, hc, hr, hz, _⟩ := (hf 2 _ rfl).ints Tryd.underlying25 Tryd.underlying3 (by kernel_rfl) (by kernel_rfl)
  obtain ⟨A1, n1, c1', ss, e3, hnc1, hc1, hr1, hz1, _⟩ := (hf 3 _ rfl).recs (bt := 56) SL.size (by omega) ⟨ByteArray.empty, 0, 0, 0, false, 0⟩ Tryd.underlying40 (by kernel_rfl) (by kernel_rfl) (fun cs h => slot_in h)
  obtain ⟨A2, n2, c2', ts, e4, hnc2, hc2, hr2, hz2, _⟩ := (hf 4 _ rfl).recs (bt := 32) IN.size (by omega) ⟨0, 0, 0, 0⟩ Tryd.underlying41 (by kernel_rfl) (by kernel_rfl) (fun cs h => instr_in h)
  have k1 : Tryd.prog.cellsOf 39 = 1 := by kernel_rfl
  have k2 : Tryd.prog.cellsOf 9 = 1 := by kernel_rfl
  have k3 : Tryd.prog.cellsOf 25 = 1 := by kernel_rfl
  have k4 : Tryd.prog.cellsOf 40 = 1 := by kernel_rfl
  have k5 : Tryd.prog.cellsOf 41 = 1 := by kernel_rfl
  simp [k1, k2, k3, k4, k5] at e0 e1 e2 e3 e4
  subst e0 e1 e2 e3 e4
  have q1 : zs.length = n := by simpa [ints] using hr.len
  have q2 : ss.length = n1 := Rd.rec_len SL.size (by omega) hr1
  have q3 : ts.length = n2 := Rd.rec_len IN.size (by omega) hr2
  exact ⟨⟨k, s, A, n, c, A1, n1, c1', A2, n2, c2'⟩, rfl, ⟨k, s, zs, ss, ts⟩, ⟨rfl, rfl, hr, hr1, hr2⟩, ⟨h0, h0'⟩, h1, hz, hz1, hz2, (by rw [q1]; omega : zs.length * 8 ≤ 140737488351232), (by rw [q2]; omega : ss.length * 56 ≤ 140737488351232), (by rw [q3]; omega : ts.length * 32 ≤ 140737488351232)⟩
end
end Go.Proofs.YtiogcbckhaknmaaDoor.Cod
