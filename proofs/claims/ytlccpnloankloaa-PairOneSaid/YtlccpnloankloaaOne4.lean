/-
  The walk of the law PairOne. Conditions: the arguments read, within the form's own reach.
-/
import Derived.Test.YtlccpnloankloaaOne3
import Derived.Test.YtlccpnloankloaaRecs
import Derived.Test.YtlccpnloankloaaO
import Derived.BigRegion
import Derived.BigQuiet
import Derived.Deep.CutBlock
import Derived.Deep.CutRange
namespace Go.Proofs.Ytlccpnloankloaa.Pair
open Go.RowKit Go.Proofs.Ytlccpnloankloaa.W Go.Proofs.Ytlccpnloankloaa.Ints Go.Proofs.Ytlccpnloankloaa.Keep

/-- what happens, by raw numbers -/
structure RB where
  side : Int
  what : Int
  which : Int
def RB.cs (r : RB) : List Value := [.int .i64 r.side, .int .i64 r.what, .int .i64 r.which]
theorem RB.len (r : RB) : r.cs.length = 3 := rfl
def I64 (x : Int) : Prop := -9223372036854775808 ≤ x ∧ x ≤ 9223372036854775807
def RB.ok (r : RB) : Prop := I64 r.side ∧ I64 r.what ∧ I64 r.which
abbrev rbV (l : List RB) : List Value := l.flatMap RB.cs
theorem rb_in {H : Type} {enc : TypeId × Value → H} {w : World} {cs : List Value} (h : O.Op enc Try.prog w 53 cs) : ∃ d : RB, cs = d.cs ∧ d.ok := by
  obtain ⟨hl, hf⟩ := h.struct Try.underlying53
  match cs, hl.trans (by kernel_rfl : Try.prog.cellsOf 53 = 3) with
  | [c0, c1, c2], _ =>
    obtain ⟨x0, e0, h0, h0'⟩ := (hf 0 _ rfl).i64 Try.underlying3
    obtain ⟨x1, e1, h1, h1'⟩ := (hf 1 _ rfl).i64 Try.underlying3
    obtain ⟨x2, e2, h2, h2'⟩ := (hf 2 _ rfl).i64 Try.underlying3
    have k3 : Try.prog.cellsOf 3 = 1 := by kernel_rfl
    simp [k3] at e0 e1 e2
    subst e0 e1 e2
    exact ⟨⟨x0, x1, x2⟩, rfl, ⟨h0, h0'⟩, ⟨h1, h1'⟩, ⟨h2, h2'⟩⟩
theorem rbs_in {H : Type} {enc : TypeId × Value → H} {w : World} {A : Option Addr} {n c : Nat} (h : O.Op enc Try.prog w 44 [.slice A n c]) :
    ∃ l : List RB, Rd w 3 A n (rbV l) ∧ ∀ d ∈ l, d.ok := by
  obtain ⟨A', n', c', xs, e, _, _, h3, h4, _⟩ := h.recs (bt := 24) RB.len (by omega) ⟨0, 0, 0⟩ Try.underlying44 (by kernel_rfl) (by kernel_rfl) (fun cs h => rb_in h)
  simp only [List.cons.injEq, Value.slice.injEq, and_true] at e
  obtain ⟨rfl, rfl, rfl⟩ := e
  exact ⟨xs, h3, h4⟩
theorem rb_at {w : World} {A : Option Addr} {n : Nat} {X : List RB} (h : Rd w 3 A n (rbV X)) {k : Nat} (hk : k < n) :
    ∃ b o s, A = some ⟨b, o, none⟩ ∧ X[k]? = some s ∧ b < w.heap.size ∧ w.cell? ⟨b, o + k * 3, none⟩ = some (.int .i64 s.side) ∧ w.cell? ⟨b, o + k * 3 + 1, none⟩ = some (.int .i64 s.what) ∧ w.cell? ⟨b, o + k * 3 + 2, none⟩ = some (.int .i64 s.which) := by
  have hl := Rd.rec_len RB.len (by omega) h
  obtain ⟨b, o, e, hc⟩ := Rd.rec RB.len h (by omega)
  have ht : X[k]? = some X[k] := List.getElem?_eq_getElem (by omega)
  have c := hc k _ ht
  have c0 := c 0 _ rfl
  refine ⟨b, o, X[k], e, ht, lt_of_cell c0, c0, ?_, ?_⟩
  · rw [Nat.add_assoc]; exact c 1 _ rfl
  · rw [Nat.add_assoc]; exact c 2 _ rfl
/-- the array while it is filled -/
def iniC (k : Nat) (p : Int) (V0 V1 : Value) : Array Value :=
  #[.int .i64 0, .bool (decide (1 ≤ k)), .int .i64 0, .int .i64 0, if 1 ≤ k then V0 else .slice none 0 0, .int .i64 0, .int .i64 (if 1 ≤ k then p else 0),
    .int .i64 (if 2 ≤ k then 1 else 0), .bool false, .int .i64 0, .int .i64 0, if 2 ≤ k then V1 else .slice none 0 0, .int .i64 0, .int .i64 (if 2 ≤ k then p else 0)]
theorem ini_set {k : Nat} (hk : k ≤ 1) (p : Int) (V0 V1 V : Value) :
    (((((((iniC k p V0 V1).setIfInBounds (k * 7) (.int .i64 k)).setIfInBounds (k * 7 + 1) (.bool (decide (k = 0)))).setIfInBounds (k * 7 + 2) (.int .i64 0)).setIfInBounds (k * 7 + 3) (.int .i64 0)).setIfInBounds (k * 7 + 4) V).setIfInBounds (k * 7 + 5) (.int .i64 0)).setIfInBounds (k * 7 + 6) (.int .i64 p) =
      iniC (k + 1) p (pu0 k V0 V) (pu1 k V1 V) := by
  rcases (show k = 0 ∨ k = 1 by omega) with rfl | rfl <;> simp [iniC, pu0, pu1]
theorem ini_at {k : Nat} (hk : k ≤ 1) (p : Int) (V0 V1 : Value) : (iniC k p V0 V1)[k * 7]? = some (.int .i64 0) ∧ (iniC k p V0 V1)[k * 7 + 1]? = some (.bool false) ∧ (iniC k p V0 V1)[k * 7 + 2]? = some (.int .i64 0) ∧ (iniC k p V0 V1)[k * 7 + 3]? = some (.int .i64 0) ∧
    (iniC k p V0 V1)[k * 7 + 4]? = some (.slice none 0 0) ∧ (iniC k p V0 V1)[k * 7 + 5]? = some (.int .i64 0) ∧ (iniC k p V0 V1)[k * 7 + 6]? = some (.int .i64 0) := by
  rcases (show k = 0 ∨ k = 1 by omega) with rfl | rfl <;> simp [iniC]
def ss0 (a : Bool) : SS := ⟨a, 0, 0, 0⟩
theorem ini_two (p : Int) (V0 V1 : Value) : iniC 2 p V0 V1 = sidesC (ss0 true) (ss0 false) p V0 V1 := by simp [iniC, sidesC, ss0]
theorem ini_zero (p : Int) (V0 V1 : Value) : iniC 0 p V0 V1 = #[.int .i64 0, .bool false, .int .i64 0, .int .i64 0, .slice none 0 0, .int .i64 0, .int .i64 0, .int .i64 0, .bool false, .int .i64 0, .int .i64 0, .slice none 0 0, .int .i64 0, .int .i64 0] := by simp [iniC]
theorem startK {k : Nat} (hk : k ≤ 1) {p : Int} (h1 : 1 ≤ p) (h2 : p ≤ 1000) (zs : List Int) : sidedF [] k p zs 2 = (⟨k, decide (k = 0), 0, 0, zs, 0, p⟩, 0) := by
  have : (0 : Int) ≤ k ∧ (k : Int) ≤ 1 := by omega
  rcases (show k = 0 ∨ k = 1 by omega) with rfl | rfl <;> simp [sidedF, h1, h2]
theorem inv_start {p : Int} (hp : 1 ≤ p) : Inv p 0 0 (ss0 true) (ss0 false) [] :=
  ⟨by omega, ⟨Nat.le_refl _, Nat.le_refl _, Int.le_refl _, by show (0 : Int) < p; omega, fun _ => rfl⟩, ⟨Nat.le_refl _, Nat.le_refl _, Int.le_refl _, by show (0 : Int) < p; omega, fun _ => rfl⟩, (fun _ h => by cases h), .inl ⟨rfl, .inr ⟨rfl, rfl, fun _ h => by (cases h), fun _ h => by (cases h)⟩⟩⟩

theorem inv_sel {p : Int} {m k : Nat} {x y : SS} {O : List BB} (hk : k ≤ 1) (h : Inv p m 0 x y O) : Inv p m k (sel k x y) (sel k y x) O := by
  rcases (show k = 0 ∨ k = 1 by omega) with rfl | rfl
  · exact h
  · exact h.swap0
theorem inv_back {p : Int} {m k : Nat} {x y z : SS} {O : List BB} (hk : k ≤ 1) (h : Inv p m k z (sel k y x) O) : Inv p m 0 (pu0 k x z) (pu1 k y z) O := by
  rcases (show k = 0 ∨ k = 1 by omega) with rfl | rfl
  · exact h
  · exact h.swap1
theorem inv_stay {p : Int} {m k : Nat} {x y : SS} {O : List BB} (hk : k ≤ 1) (h : Inv p m k (sel k x y) (sel k y x) O) : Inv p m 0 x y O := by
  rcases (show k = 0 ∨ k = 1 by omega) with rfl | rfl
  · exact h
  · exact h.swap1
theorem mono_back {k : Nat} {x y z : SS} (h : MonoQ (sel k x y) z) : MonoQ x (pu0 k x z) ∧ MonoQ y (pu1 k y z) := by
  unfold sel at h
  unfold pu0 pu1
  split
  · rw [if_pos (by assumption)] at h
    exact ⟨h, MonoQ.refl _⟩
  · rw [if_neg (by assumption)] at h
    exact ⟨MonoQ.refl _, h⟩
theorem MonoQ.trans {a b c : SS} (h : MonoQ a b) (k : MonoQ b c) : MonoQ a c := by
  obtain ⟨h1, h2⟩ := h
  obtain ⟨k1, k2⟩ := k
  refine ⟨by omega, fun e => ?_⟩
  have := h2 (by omega)
  have := k2 (by omega)
  omega
/-- what was said -/
theorem said_inv {w0 w : World} {gs gt : Nat} {p : Int} {m k : Nat} {x y : SS} {L : List BI} {Kx : List Box} (hk : k ≤ 1) (h : Inv p m 0 x y (L.map BI.b)) (hs : Said w0 w gs gt p k x y (sel k x y) L Kx) :
    ∃ L', PWE w0 w gs gt p x y L' Kx ∧ Inv p m 0 x y (L'.map BI.b) ∧ L'.length ≤ L.length + 1 ∧ (((sel k x y).act = true ∧ ∃ A c, L' = L ++ [⟨⟨k, (sel k x y).term, (sel k x y).cyc⟩, A, c⟩]) ∨ ((sel k x y).act = false ∧ L' = L)) := by
  obtain ⟨L', hp, hc⟩ := hs
  refine ⟨L', hp, ?_, ?_, hc⟩
  · have hi := (inv_sel hk h).say
    unfold sayQ at hi
    rcases hc with ⟨ha, A, c, rfl⟩ | ⟨ha, rfl⟩
    · rw [if_pos ha] at hi
      refine inv_stay hk ?_
      simpa using hi
    · exact h
  · rcases hc with ⟨ha, A, c, rfl⟩ | ⟨ha, rfl⟩
    · simp
    · omega
theorem waitK {p : Int} {m k : Nat} {s : SS} (h : Fit p m s) (hp : p ≤ 1000) (hm : m ≤ 1000) (hk : k ≤ 1) : waitedF [] (s.sd k p) 2 = ((waitQ p s).sd k p, 0) := by
  have hok := fit_ok h hp hm hk
  have ht := h.t
  unfold waitedF waitQ
  rw [if_pos hok]
  by_cases ha : s.act = true
  · rw [if_pos (show (s.sd k p).act = true from ha), if_pos ha]
  · rw [if_neg (show ¬ (s.sd k p).act = true from ha), if_neg ha]
    by_cases h1 : s.sil + 1 < p
    · rw [if_pos (show (s.sd k p).sil + 1 < (s.sd k p).pat from h1), if_pos h1]
      rfl
    · rw [if_neg (show ¬ (s.sd k p).sil + 1 < (s.sd k p).pat from h1), if_neg h1, if_neg (show ¬ (s.sd k p).term = 1000000 by show ¬ (s.term : Int) = 1000000; omega)]
      simp [SS.sd]
theorem doneK {p : Int} {m k : Nat} {s : SS} (h : Fit p m s) (hp : p ≤ 1000) (hm : m ≤ 1000) (hk : k ≤ 1) (ha : s.act = true) (ys : List Int) {c2 : Nat} (hc : s.cyc + 1 = c2) :
    cycledF [] (s.sd k p) 2 ys 2 = ((⟨k, true, s.term, c2, ys, s.sil, p⟩ : SD (List Int)), 0) := by
  have hok := fit_ok h hp hm hk
  have ht := h.c
  unfold cycledF
  rw [if_pos hok, if_pos (show (s.sd k p).act = true from ha), if_pos (by omega), if_neg (show ¬ (s.sd k p).cyc = 999999999 by show ¬ (s.cyc : Int) = 999999999; omega)]
  subst hc
  simp [SS.sd, ha]
/-- what both come to when both hear one another -/
def Y1 (x y : SS) : SS := if x.act = true then hearQ 1 y ⟨0, x.term, x.cyc⟩ else y
def X1 (x y1 : SS) : SS := if y1.act = true then hearQ 0 x ⟨1, y1.term, y1.cyc⟩ else x
theorem PWE.bel {w0 w w' : World} {gs gt : Nat} {p : Int} {x y : SS} {L : List BI} {Kx : List Box} (h : PWE w0 w gs gt p x y L Kx) (hb : Below w.heap.size w w') : PWE w0 w' gs gt p x y L Kx := by
  obtain ⟨A0, c0, A1, c1, B, d, Ks, Os, h⟩ := h
  exact ⟨A0, c0, A1, c1, B, d, Ks, Os, h.mem.below hb, h.i0, h.i1, h.im, h.kx⟩
theorem PWE.drop {w0 w : World} {gs gt : Nat} {p : Int} {x y : SS} {L : List BI} {Kx : List Box} (h : PWE w0 w gs gt p x y L Kx) : PWE w0 w gs gt p x y L [] := by
  obtain ⟨A0, c0, A1, c1, B, d, Ks, Os, h⟩ := h
  exact ⟨A0, c0, A1, c1, B, d, Ks, Os, h.mem, h.i0, h.i1, h.im, fun _ h => (by cases h)⟩

theorem PW.beat {w0 w : World} {gs gt : Nat} {p : Int} {x y : SS} {L : List BI} {Kx : List Box} {A0 : Option Addr} {c0 : Nat} {A1 : Option Addr} {c1 : Nat} {bb : Nat} {d : Nat} {Ks : List Box} {Os : List Row}
    (h : PW w0 w gs gt p x y L Kx A0 c0 A1 c1 (some ⟨bb, 0, none⟩) d Ks Os) {ix : Nat} {it : BI} (hi : L[ix]? = some it) :
    w.cell? ⟨bb, ix * 4, none⟩ = some (.int .i64 it.b.frm) ∧ w.cell? ⟨bb, ix * 4 + 1, none⟩ = some (.int .i64 it.b.term) ∧ w.cell? ⟨bb, ix * 4 + 2, none⟩ = some (.int .i64 it.b.cyc) ∧ w.cell? ⟨bb, ix * 4 + 3, none⟩ = some (.slice it.A 2 it.c) := by
  have hl := (List.getElem?_eq_some_iff.1 hi).1
  have hc : ∀ i u, it.cs[i]? = some u → i < 4 → w.cell? ⟨bb, ix * 4 + i, none⟩ = some u := fun i u hu h4 => by
    rw [(h.mem.rowO 0 rfl).cellAt (ix * 4 + i) (by omega)]
    exact (flat_at BI.len L ix i it hi h4).trans hu
  exact ⟨hc 0 _ rfl (by omega), hc 1 _ rfl (by omega), hc 2 _ rfl (by omega), hc 3 _ rfl (by omega)⟩
theorem rb_same {w : World} {b o n : Nat} {X : List RB} (h : Rd w 3 (some ⟨b, o, none⟩) n (rbV X)) {k : Nat} (hk : k < n) {r : RB} (hr : X[k]? = some r) :
    w.cell? ⟨b, o + k * 3, none⟩ = some (.int .i64 r.side) ∧ w.cell? ⟨b, o + k * 3 + 1, none⟩ = some (.int .i64 r.what) ∧ w.cell? ⟨b, o + k * 3 + 2, none⟩ = some (.int .i64 r.which) := by
  obtain ⟨b', o', s', e, hs', _, h0, h1, h2⟩ := rb_at h hk
  injection e with e
  injection e with e1 e2
  subst e1 e2
  obtain rfl : r = s' := by rw [hr] at hs'; injection hs'
  exact ⟨h0, h1, h2⟩

end Go.Proofs.Ytlccpnloankloaa.Pair
