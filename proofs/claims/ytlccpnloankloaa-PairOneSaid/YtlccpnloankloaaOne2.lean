/-
  PairOne: how the two sides and the beats that were sent lie in memory; what a side says. Conditions: the sides fit.
-/
import Derived.Test.YtlccpnloankloaaOne1
import Derived.Test.YtlccpnloankloaaMem
import Derived.Test.YtlccpnloankloaaApl
import Derived.Test.YtlccpnloankloaaRec
import Derived.Deep.DeepCutAuto
namespace Go.Proofs.Ytlccpnloankloaa.Pair
open Go.RowKit Go.Proofs.Ytlccpnloankloaa.W Go.Proofs.Ytlccpnloankloaa.Ints Go.Proofs.Ytlccpnloankloaa.Keep

def sidesC (x y : SS) (p : Int) (V0 V1 : Value) : Array Value :=
  #[.int .i64 0, .bool x.act, .int .i64 x.term, .int .i64 x.cyc, V0, .int .i64 x.sil, .int .i64 p, .int .i64 1, .bool y.act, .int .i64 y.term, .int .i64 y.cyc, V1, .int .i64 y.sil, .int .i64 p]
/-- side k of the two -/
def sel {α : Type} (k : Nat) (x y : α) : α := if k = 0 then x else y
/-- the two with side k put in -/
def pu0 {α : Type} (k : Nat) (x z : α) : α := if k = 0 then z else x
def pu1 {α : Type} (k : Nat) (y z : α) : α := if k = 0 then y else z
theorem sides_at {k : Nat} (hk : k ≤ 1) (x y : SS) (p : Int) (V0 V1 : Value) {j : Nat} (hj : j < 7) : (sidesC x y p V0 V1)[k * 7 + j]? = (sideC k (sel k x y).act (sel k x y).term (sel k x y).cyc (sel k V0 V1) (sel k x y).sil p)[j]? := by
  rcases (show k = 0 ∨ k = 1 by omega) with rfl | rfl
  · rcases (show j = 0 ∨ j = 1 ∨ j = 2 ∨ j = 3 ∨ j = 4 ∨ j = 5 ∨ j = 6 by omega) with rfl | rfl | rfl | rfl | rfl | rfl | rfl <;> rfl
  · rcases (show j = 0 ∨ j = 1 ∨ j = 2 ∨ j = 3 ∨ j = 4 ∨ j = 5 ∨ j = 6 by omega) with rfl | rfl | rfl | rfl | rfl | rfl | rfl <;> rfl
theorem sides_set {k : Nat} (hk : k ≤ 1) (x y z : SS) (p : Int) (V0 V1 V : Value) :
    (((((((sidesC x y p V0 V1).setIfInBounds (k * 7) (.int .i64 k)).setIfInBounds (k * 7 + 1) (.bool z.act)).setIfInBounds (k * 7 + 2) (.int .i64 z.term)).setIfInBounds (k * 7 + 3) (.int .i64 z.cyc)).setIfInBounds (k * 7 + 4) V).setIfInBounds (k * 7 + 5) (.int .i64 z.sil)).setIfInBounds (k * 7 + 6) (.int .i64 p) =
      sidesC (pu0 k x z) (pu1 k y z) p (pu0 k V0 V) (pu1 k V1 V) := by
  rcases (show k = 0 ∨ k = 1 by omega) with rfl | rfl <;> simp [sidesC, pu0, pu1]
/-- a beat that was sent, with its image's place -/
structure BI where
  b : BB
  A : Option Addr
  c : Nat
def BI.cs (i : BI) : List Value := [.int .i64 i.b.frm, .int .i64 i.b.term, .int .i64 i.b.cyc, .slice i.A 2 i.c]
theorem BI.len (i : BI) : i.cs.length = 4 := rfl
abbrev beatsV (L : List BI) : List Value := L.flatMap BI.cs
def imgR (A : Option Addr) (c n : Nat) : Row := ⟨3, 1, A, 2, c, ints (sm n)⟩
/-- how it lies -/
structure PW (w0 w : World) (gs gt : Nat) (p : Int) (x y : SS) (L : List BI) (Kx : List Box) (A0 : Option Addr) (c0 : Nat) (A1 : Option Addr) (c1 : Nat) (B : Option Addr) (d : Nat) (Ks : List Box) (Os : List Row) : Prop where
  mem : Mem w0 w (⟨gs, 46, sidesC x y p (.slice A0 2 c0) (.slice A1 2 c1)⟩ :: ⟨gt, 48, #[.slice B L.length d]⟩ :: Ks) (⟨33, 4, B, L.length, d, beatsV L⟩ :: Os)
  i0 : imgR A0 c0 x.cyc ∈ Os
  i1 : imgR A1 c1 y.cyc ∈ Os
  im : ∀ i ∈ L, imgR i.A i.c i.b.cyc ∈ Os
  kx : ∀ k ∈ Kx, k ∈ Ks
def PWE (w0 w : World) (gs gt : Nat) (p : Int) (x y : SS) (L : List BI) (Kx : List Box) : Prop := ∃ A0 c0 A1 c1 B d Ks Os, PW w0 w gs gt p x y L Kx A0 c0 A1 c1 B d Ks Os
def PWB (w0 w : World) (gs gt : Nat) (p : Int) (x y : SS) (L : List BI) (Kx : List Box) (B : Option Addr) (d : Nat) : Prop := ∃ A0 c0 A1 c1 Ks Os, PW w0 w gs gt p x y L Kx A0 c0 A1 c1 B d Ks Os
theorem PWB.e {w0 w : World} {gs gt : Nat} {p : Int} {x y : SS} {L : List BI} {Kx : List Box} {B : Option Addr} {d : Nat} (h : PWB w0 w gs gt p x y L Kx B d) : PWE w0 w gs gt p x y L Kx := by
  obtain ⟨A0, c0, A1, c1, Ks, Os, h⟩ := h
  exact ⟨A0, c0, A1, c1, B, d, Ks, Os, h⟩
theorem beat_info : (Try.prog.info? 33).map (fun i => (i.zero, i.size, i.bytes)) = some (some (.agg #[.int .i64 0, .int .i64 0, .int .i64 0, .slice none 0 0]), 4, 48) := by kernel_rfl
section
variable {w0 w w' : World} {gs gt : Nat} {p : Int} {x y : SS} {L : List BI} {Kx : List Box} {A0 : Option Addr} {c0 : Nat} {A1 : Option Addr} {c1 : Nat} {B : Option Addr} {d : Nat} {Ks : List Box} {Os : List Row}
theorem mem_img (h : Mem w0 w Ks Os) {A : Option Addr} {c n : Nat} (hm : imgR A c n ∈ Os) : Rd w 1 A 2 (ints (sm n)) := Rd.own (h.own _ hm)
theorem PW.img (h : PW w0 w gs gt p x y L Kx A0 c0 A1 c1 B d Ks Os) (k : Nat) : imgR (sel k A0 A1) (sel k c0 c1) (sel k x y).cyc ∈ Os := by
  unfold sel
  split
  · exact h.i0
  · exact h.i1
theorem PW.rdk (h : PW w0 w gs gt p x y L Kx A0 c0 A1 c1 B d Ks Os) (k : Nat) : Rd w 1 (sel k A0 A1) 2 (ints (sm (sel k x y).cyc)) := mem_img h.mem (List.mem_cons_of_mem _ (h.img k))
theorem PW.cellS (h : PW w0 w gs gt p x y L Kx A0 c0 A1 c1 B d Ks Os) {k : Nat} (hk : k ≤ 1) {j : Nat} (hj : j < 7) : w.cell? ⟨gs, k * 7 + j, none⟩ = (sideC k (sel k x y).act (sel k x y).term (sel k x y).cyc (sel k (.slice A0 2 c0) (.slice A1 2 c1)) (sel k x y).sil p)[j]? := by
  rw [h.mem.cellK 0 rfl]
  exact sides_at hk x y p _ _ hj
theorem sel_slice (k : Nat) : sel k (Value.slice A0 2 c0) (Value.slice A1 2 c1) = .slice (sel k A0 A1) 2 (sel k c0 c1) := by
  unfold sel
  split <;> rfl
end
theorem sentK {p : Int} {m k : Nat} {s : SS} (h : Fit p m s) (hp : p ≤ 1000) (hm : m ≤ 1000) (hk : k ≤ 1) :
    sentF [] (s.sd k p) 2 = if s.act = true then (⟨k, s.term, s.cyc, sm s.cyc⟩, 0) else (zeroB [], 18) := by
  have hok := fit_ok h hp hm hk
  simp only [sentF, hok, if_true]
  rfl

def Said (w0 w : World) (gs gt : Nat) (p : Int) (k : Nat) (x y S : SS) (L : List BI) (Kx : List Box) : Prop :=
  ∃ L', PWE w0 w gs gt p x y L' Kx ∧ ((S.act = true ∧ ∃ A c, L' = L ++ [⟨⟨k, S.term, S.cyc⟩, A, c⟩]) ∨ (S.act = false ∧ L' = L))
theorem rd_beat (w : World) (t : TypeId) (a b c : Int) (A : Option Addr) (n m : Nat) : Rd (w.alloc (.cells #[.int .i64 a, .int .i64 b, .int .i64 c, .slice A n m] t)) 4 (some ⟨w.heap.size, 0, none⟩) 1 [.int .i64 a, .int .i64 b, .int .i64 c, .slice A n m] := rd_newR _ _ _
theorem sm_two (n : Nat) : (sm n).length = 2 := rfl
theorem mem_sink {w0 w : World} {Os : List Row} {a b c : Box} {Ks : List Box} (h : Mem w0 w (a :: b :: c :: Ks) Os) : Mem w0 w (b :: c :: a :: Ks) Os := (h.upK 2 rfl).upK 2 rfl

set_option maxRecDepth 100000 in
set_option maxHeartbeats 6400000 in
theorem say_any (w0 w : World) (gs gt : Nat) (p : Int) (m k : Nat) (x y : SS) (L : List BI) (Kx : List Box) (hP : PWE w0 w gs gt p x y L Kx) (hk : k ≤ 1) (hf : Fit p m (sel k x y)) (hp : p ≤ 1000) (hm : m ≤ 1000) (hL : L.length ≤ 100000) :
    Calls Try.prog 30 #[.int .i64 k, .pointer (some ⟨gs, 0, none⟩), .pointer (some ⟨gt, 0, none⟩)] w fun e w' => e = .returned (.bool true) ∧
      Said w0 w' gs gt p k x y (sel k x y) L Kx := by
  obtain ⟨j0, hyi, hy0, hy1, hy2⟩ := info_parts beat_info
  obtain ⟨A0, c0, A1, c1, B, d, Ks, Os, h⟩ := hP
  have H := Lib.hid h
  have hS := sentK hf hp hm hk
  have d0 := h.cellS hk (j := 0) (by omega)
  have d1 := h.cellS hk (j := 1) (by omega)
  have d2 := h.cellS hk (j := 2) (by omega)
  have d3 := h.cellS hk (j := 3) (by omega)
  have d4 := h.cellS hk (j := 4) (by omega)
  have d5 := h.cellS hk (j := 5) (by omega)
  have d6 := h.cellS hk (j := 6) (by omega)
  rw [sel_slice] at d0 d1 d2 d3 d4 d5 d6
  have hr := h.rdk k
  generalize sel k x y = S at *
  generalize sel k A0 A1 = A at *
  generalize sel k c0 c1 = c at *
  obtain ⟨act, term, cyc, sil⟩ := S
  rw [Nat.add_zero] at d0
  have d0 : w.cell? ⟨gs, k * 7, none⟩ = some (.int .i64 k) := d0
  have d1 : w.cell? ⟨gs, k * 7 + 1, none⟩ = some (.bool act) := d1
  have d2 : w.cell? ⟨gs, k * 7 + 2, none⟩ = some (.int .i64 term) := d2
  have d3 : w.cell? ⟨gs, k * 7 + 3, none⟩ = some (.int .i64 cyc) := d3
  have d4 : w.cell? ⟨gs, k * 7 + 4, none⟩ = some (.slice A 2 c) := d4
  have d5 : w.cell? ⟨gs, k * 7 + 5, none⟩ = some (.int .i64 sil) := d5
  have d6 : w.cell? ⟨gs, k * 7 + 6, none⟩ = some (.int .i64 p) := d6
  have hb0 := lt_of_cell d0
  have HR := Lib.hid hr
  have HS := Lib.hid hS
  clear h hr hS hf
  have hk0 : (0 : Int) ≤ (k : Int) := by omega
  have hk2 : (k : Int) < 2 := by omega
  go_enter Try.func30, Try.ntmps30
  go_wp2_with fail
  refine (Send_any k act term cyc A 2 c sil p (sm cyc) _ HR.out (by omega)).mono ?_
  intro e w1 hf1
  have hS' : sentF [] (⟨k, act, term, cyc, sm cyc, sil, p⟩ : SD (List Int)) 2 = if act = true then (⟨k, term, cyc, sm cyc⟩, 0) else (zeroB [], 18) := HS.out
  rw [hS'] at hf1
  clear HS hS'
  cases act
  · obtain ⟨A2, c2, rfl, ho, hb⟩ := hf1
    have d1 := (hb.cell hb0).trans d1
    have M1 := Lib.hid ((H.out.mem.below hb).alloc 33 #[.int .i64 0, .int .i64 0, .int .i64 0, .slice A2 0 c2])
    have hb1 : gs < w1.heap.size := Nat.lt_of_lt_of_le hb0 hb.size
    clear ho hb d0 d2 d3 d4 d5 d6
    go_wp2
    go_ret
    exact ⟨rfl, L, ⟨A0, c0, A1, c1, B, d, _, Os, mem_sink M1.out, H.out.i0, H.out.i1, H.out.im, fun k hk => List.mem_cons_of_mem _ (H.out.kx k hk)⟩, .inr ⟨rfl, rfl⟩⟩
  · obtain ⟨A2, c2, rfl, ho, hb⟩ := hf1
    simp only [if_true, sm_two] at ho ⊢
    have d1 := (hb.cell hb0).trans d1
    have hb1 : gs < w1.heap.size := Nat.lt_of_lt_of_le hb0 hb.size
    have M1 := Lib.hid (((H.out.mem.made hb ho).alloc 33 #[.int .i64 k, .int .i64 term, .int .i64 cyc, .slice A2 2 c2]).upO 1 rfl)
    clear ho hb d0 d2 d3 d4 d5 d6
    have t0 := M1.out.cellK 2 rfl
    have k0 := M1.out.cellK 0 rfl
    have hgt := (M1.out.ltK 2 rfl).2
    have hz := M1.out.base
    have q3 := rd_beat (w1.alloc (.cells #[.int .i64 k, .int .i64 term, .int .i64 cyc, .slice A2 2 c2] 33)) 33 k term cyc A2 2 c2
    rw [World.size_alloc] at q3
    go_wp2_with (at_builtin; refine wpList_append_rd _ rfl (.tmp 23) (.tmp 25) 48 rfl w0.heap.size 33 j0 _ 4 48 Try.underlying48 hyi hy0 hy1 hy2 rfl (by omega) _ L.length (beatsV L) rfl ((M1.out.rowO 0 rfl).alloc _) _ 1 1 [.int .i64 k, .int .i64 term, .int .i64 cyc, .slice A2 2 c2] rfl q3 ?_ ?_ ?_ ?_ ?_)
    · intro u hu
      simp at hu
      rcases hu with rfl | rfl | rfl | rfl <;> rfl
    · unfold maxLen; omega
    · omega
    · simp only [World.size_alloc] at hz ⊢; omega
    intro v3 w3 ho3 hg3 hat3
    obtain ⟨B', d', rfl, _⟩ := own_shape ho3
    have M3 := Lib.hid (M1.out.appd hg3 ho3 (by simpa only [World.size_alloc] using hat3))
    have hz3 := hg3.size
    clear ho3 hg3 hat3 q3 M1 t0 k0 hz d1
    have fz := M3.out.frozenK 2 rfl
    have t3 := M3.out.cellK 2 rfl
    have M4 := Lib.hid (((M3.out.upK 2 rfl).set (i := 0) (.slice B' (L.length + 1) d')).upK 2 rfl)
    go_wp2
    go_ret
    have e1 : (L ++ [(⟨⟨k, term, cyc⟩, A2, c2⟩ : BI)]).length = L.length + 1 := by simp
    have e2 : beatsV (L ++ [(⟨⟨k, term, cyc⟩, A2, c2⟩ : BI)]) = beatsV L ++ [.int .i64 k, .int .i64 term, .int .i64 cyc, .slice A2 2 c2] := by simp [beatsV, BI.cs]
    have hM : Mem w0 (w3.setCell ⟨gt, 0, none⟩ (.slice B' (L.length + 1) d')) (⟨gs, 46, sidesC x y p (.slice A0 2 c0) (.slice A1 2 c1)⟩ :: ⟨gt, 48, #[.slice B' (L ++ [(⟨⟨k, term, cyc⟩, A2, c2⟩ : BI)]).length d']⟩ :: ⟨w1.heap.size, 33, #[.int .i64 k, .int .i64 term, .int .i64 cyc, .slice A2 2 c2]⟩ :: Ks)
        (⟨33, 4, B', (L ++ [(⟨⟨k, term, cyc⟩, A2, c2⟩ : BI)]).length, d', beatsV (L ++ [(⟨⟨k, term, cyc⟩, A2, c2⟩ : BI)])⟩ :: imgR A2 c2 cyc :: Os) := by
      rw [e1, e2]
      exact M4.out
    refine ⟨rfl, L ++ [⟨⟨k, term, cyc⟩, A2, c2⟩], ⟨A0, c0, A1, c1, B', d', _, imgR A2 c2 cyc :: Os, ⟨hM, List.mem_cons_of_mem _ H.out.i0, List.mem_cons_of_mem _ H.out.i1, fun i hi => ?_, fun k hk => List.mem_cons_of_mem _ (H.out.kx k hk)⟩⟩, .inl ⟨rfl, A2, c2, rfl⟩⟩
    rcases List.mem_append.1 hi with hi | hi
    · exact List.mem_cons_of_mem _ (H.out.im i hi)
    · rw [List.mem_singleton.1 hi]
      exact List.mem_cons_self ..
end Go.Proofs.Ytlccpnloankloaa.Pair
