/-
  The program's times as they are shown. Conditions: the table of powers of ten as it is laid; that the number is a time.
-/
import Derived.Test.YtckjnlonijodcaaDoorTxG
import Derived.Shelf.Strings.Builder1
import Derived.Lib.AppendIntMem
import Derived.Shelf.Unicode.PredsPay
namespace Go.Proofs.YtckjnlonijodcaaDoor.Tx
open Go.RowKit Go.Proofs.YtckjnlonijodcaaDoor.W Go.Proofs.YtckjnlonijodcaaDoor.Num Go.Proofs.YtckjnlonijodcaaDoor.Cell

theorem write_any (B b : Nat) (bs : List Value) (s : ByteArray) (w : World) (h : Lib.IsBuilder 62 5 B b bs w) (hlen : bs.length + s.size ≤ 140737488355328) (hBw : B ≤ w.heap.size) :
    Calls Tryd.prog 41 #[.pointer (some ⟨b, 0, none⟩), .string s] w fun e w' => e = .returned (.tuple #[.int .i64 s.size, .nilIface]) ∧ (Lib.BuilderAt 62 5 B b (.pointer (some ⟨b, 0, none⟩)) (bs ++ Lib.strCells s) w' ∧ Below B w w') :=
  Any.Builder_WriteString (P := Tryd.prog) (ρ := Tryd.lays158_ren) { Tryd.lays158 with } Tryd.Builder_Extra_158 B b bs s w h hlen hBw
theorem cells_app (l m : List UInt8) : Lib.byteCells l ++ Lib.strCells (strB m) = Lib.byteCells (l ++ m) := by
  simp [Lib.byteCells, Lib.strCells]
theorem bld_grown {T e : TypeId} {B b : Nat} {bs : List Value} {w w' : World} {row : Option Nat} (h : Lib.IsBuilder T e B b bs w) (hg : w.grownBy w' row) (hr : ∀ g, row = some g → g < B) : Lib.IsBuilder T e B b bs w' := by
  have key : ∀ p, Lib.BuilderAt T e B b p bs w → Lib.BuilderAt T e B b p bs w' := by
    rintro p ⟨hB, v, hb, hown, hne⟩
    refine ⟨hB, v, ?_, own_grown hown hg (fun g hg' e' => ?_), hne⟩
    · rw [hg.block b (Array.getElem?_eq_some_iff.1 hb).1 (fun e' => by have := hr b e'.symm; omega)]
      exact hb
    · have h1 := hr g e'.symm
      obtain ⟨A, c, rfl, _, _, _, hbase⟩ := own_shape hown
      cases A with
      | none => cases hg'
      | some a =>
        have := hbase a rfl
        have h2 : a.block = g := by simpa [Value.ownBlock] using hg'
        omega
  exact h.elim (fun x => .inl (key _ x)) (fun x => .inr (key _ x))
theorem grown_of {w w' : World} (h : Below w.heap.size w w') : w.grownBy w' none := ⟨h.os, h.tape, h.output, h.size, fun k hk _ => h.block k hk⟩
theorem grown_set (w : World) (g : Nat) (u : Value) : w.grownBy (w.setCell ⟨g, 0, none⟩ u) (some g) :=
  ⟨rfl, rfl, rfl, by simp, fun k _ hne => Below.heap_setCell w _ u k (fun e => hne (by rw [e]))⟩
set_option maxRecDepth 100000 in
set_option maxHeartbeats 6400000 in
theorem part_any (N size q r : Nat) (u l : List UInt8) (gn gb B : Nat) (w : World) (hN : N ≤ 4294967295) (hs1 : 1 ≤ size) (hs2 : size ≤ 86400000) (hq : q = N / size) (hr : r = N % size) (hu : u.length ≤ 2) (hl : l.length ≤ 1000000000000)
    (kn : Blk w gn 3 #[.int .i64 (N : Int)]) (kb : Lib.IsBuilder 62 5 B gb (Lib.byteCells l) w) (hgn : gn < B) (hB : B ≤ w.heap.size) (htab : Lib.TabIs Tryd.prog w "internal/strconv.uint64pow10" .u64 Lib.pow10Tab) :
    Calls Tryd.prog 46 #[.int .i64 (size : Int), .string (strB u), .pointer (some ⟨gn, 0, none⟩), .pointer (some ⟨gb, 0, none⟩)] w fun e w' => e = .returned (.tuple #[]) ∧ Blk w' gn 3 #[.int .i64 (r : Int)] ∧ Lib.IsBuilder 62 5 B gb (Lib.byteCells (l ++ partF q u)) w' ∧ Below gn w w' := by
  have hqb : q ≤ 4294967295 := by rw [hq]; exact Nat.le_trans (Nat.div_le_self _ _) hN
  have hq1 : Int.tdiv (N : Int) (size : Int) = (q : Int) := by rw [hq, Int.tdiv_eq_ediv_of_nonneg (by omega)]; exact (Int.natCast_ediv _ _).symm
  have hr1 : Int.tmod (N : Int) (size : Int) = (r : Int) := by rw [hr, Int.tmod_eq_emod_of_nonneg (by omega)]; exact (Int.natCast_emod _ _).symm
  have hs0 : ¬ (size : Int) = 0 := by omega
  have c1 : w.cell? ⟨gn, 0, none⟩ = some (.int .i64 (N : Int)) := kn.cell 0
  have KN := Lib.hid kn
  have KB := Lib.hid kb
  clear kn kb hq hr
  by_cases hq0 : 0 < q
  · have hq2 : (0 : Int) < (q : Int) := by omega
    obtain ⟨ub, hub⟩ : ∃ ub, strB u = ub := ⟨_, rfl⟩
    obtain ⟨db, hdb⟩ : ∃ db, strB (Go.Lib.itoa (q : Int)) = db := ⟨_, rfl⟩
    have hit := Tryd.strconv_Itoa (q : Int) (by omega) (by omega) w htab
    change Calls _ _ _ _ (fun e w' => e = .returned (.string (strB (Go.Lib.itoa (q : Int)))) ∧ _) at hit
    rw [hdb] at hit
    rw [hub]
    have hsz : db.size + ub.size ≤ 4294967300 := by rw [← hdb, ← hub, strB_size, strB_size, itoa_nat]; have := dec_len q; omega
    have hlen : ¬ 9223372036854775807 < db.size + ub.size := by omega
    have hws : ∀ W, Lib.IsBuilder 62 5 B gb (Lib.byteCells l) W → B ≤ W.heap.size → Calls Tryd.prog 41 #[.pointer (some ⟨gb, 0, none⟩), .string (db ++ ub)] W fun e w' => ∃ z, e = .returned (.tuple #[.int .i64 z, .nilIface]) ∧ Lib.IsBuilder 62 5 B gb (Lib.byteCells (l ++ partF q u)) w' ∧ Below B W w' := fun W h1 h2 => by
      refine (write_any B gb _ (db ++ ub) W h1 (by rw [Lib.byteCells_length, ByteArray.size_append]; omega) h2).mono fun e w' h => ?_
      obtain ⟨he, hb, hbl⟩ := h
      refine ⟨_, he, .inr ?_, hbl⟩
      rw [← hdb, ← hub, app_str, cells_app] at hb
      unfold partF
      rw [if_pos hq0, ← itoa_nat]
      exact hb
    have HWS := Lib.hid hws
    clear hws hdb hub htab hsz
    go_enter Tryd.func46, Tryd.ntmps46
    go_wp2_with first
      | (go_at_call 30; refine hit.mono ?_; rintro e w1 ⟨rfl, kk, os, hw1⟩; have hb1 : Below w.heap.size w w1 := hw1 ▸ Lib.below_grow _ w (Nat.le_refl _) kk os; clear hw1; have KB1 := Lib.hid (bld_grown KB.out (grown_of hb1) (by simp)); have KN1 := Lib.hid (KN.out.below hb1); have HS1 := hb1.size; have HB1 := Lib.hid hb1; clear hb1)
      | (go_at_call 41; refine (HWS.out _ KB1.out (by omega)).mono ?_; rintro e w2 ⟨z, rfl, kb2, hb2⟩; have KB2 := Lib.hid kb2; have kn2 : Blk w2 gn 3 #[.int .i64 (N : Int)] := KN1.out.keep (hb2.block gn hgn); have c2 : w2.cell? ⟨gn, 0, none⟩ = some (.int .i64 (N : Int)) := kn2.cell 0; have f2 := kn2.frozen 0; have HB2 := Lib.hid hb2; have KN2 := Lib.hid kn2; clear kb2 hb2 kn2)
    go_end0
    refine ⟨rfl, ?_, bld_grown KB2.out (grown_set _ gn _) (fun g hg => by injection hg with hg; omega), Below.setCell (B := gn) (p := ⟨gn, 0, none⟩) ((HB1.out.mono (show gn ≤ w.heap.size by omega)).trans (HB2.out.mono (show gn ≤ B by omega))) (Nat.le_refl _) _⟩
    simpa using KN2.out.put 0 (.int .i64 (r : Int))
  · have hq2 : ¬ (0 : Int) < (q : Int) := by omega
    have hp : l ++ partF q u = l := by unfold partF; rw [if_neg hq0, List.append_nil]
    have f2 := KN.out.frozen 0
    rw [hp]
    clear hp htab
    go_enter Tryd.func46, Tryd.ntmps46
    go_wp2
    go_end0
    refine ⟨rfl, ?_, bld_grown KB.out (grown_set _ gn _) (fun g hg => by injection hg with hg; omega), Below.setCell (B := gn) (p := ⟨gn, 0, none⟩) (Below.refl _ _) (Nat.le_refl _) _⟩
    simpa using KN.out.put 0 (.int .i64 (r : Int))
theorem part_d (N : Nat) (l : List UInt8) (gn gb B : Nat) (w : World) (hN : N ≤ 4294967295) (hl : l.length ≤ 1000000000000) (kn : Blk w gn 3 #[.int .i64 (N : Int)]) (kb : Lib.IsBuilder 62 5 B gb (Lib.byteCells l) w) (hgn : gn < B) (hB : B ≤ w.heap.size) (htab : Lib.TabIs Tryd.prog w "internal/strconv.uint64pow10" .u64 Lib.pow10Tab) :
    Calls Tryd.prog 46 #[.int .i64 86400000, .string { data := #[100] }, .pointer (some ⟨gn, 0, none⟩), .pointer (some ⟨gb, 0, none⟩)] w fun e w' => e = .returned (.tuple #[]) ∧ Blk w' gn 3 #[.int .i64 ((N % 86400000 : Nat) : Int)] ∧ Lib.IsBuilder 62 5 B gb (Lib.byteCells (l ++ partF (N / 86400000) [100])) w' ∧ Below gn w w' :=
  part_any N 86400000 (N / 86400000) (N % 86400000) [100] l gn gb B w hN (by omega) (by omega) rfl rfl (by simp) hl kn kb hgn hB htab
theorem part_h (N : Nat) (l : List UInt8) (gn gb B : Nat) (w : World) (hN : N ≤ 4294967295) (hl : l.length ≤ 1000000000000) (kn : Blk w gn 3 #[.int .i64 (N : Int)]) (kb : Lib.IsBuilder 62 5 B gb (Lib.byteCells l) w) (hgn : gn < B) (hB : B ≤ w.heap.size) (htab : Lib.TabIs Tryd.prog w "internal/strconv.uint64pow10" .u64 Lib.pow10Tab) :
    Calls Tryd.prog 46 #[.int .i64 3600000, .string { data := #[104] }, .pointer (some ⟨gn, 0, none⟩), .pointer (some ⟨gb, 0, none⟩)] w fun e w' => e = .returned (.tuple #[]) ∧ Blk w' gn 3 #[.int .i64 ((N % 3600000 : Nat) : Int)] ∧ Lib.IsBuilder 62 5 B gb (Lib.byteCells (l ++ partF (N / 3600000) [104])) w' ∧ Below gn w w' :=
  part_any N 3600000 (N / 3600000) (N % 3600000) [104] l gn gb B w hN (by omega) (by omega) rfl rfl (by simp) hl kn kb hgn hB htab
theorem part_m (N : Nat) (l : List UInt8) (gn gb B : Nat) (w : World) (hN : N ≤ 4294967295) (hl : l.length ≤ 1000000000000) (kn : Blk w gn 3 #[.int .i64 (N : Int)]) (kb : Lib.IsBuilder 62 5 B gb (Lib.byteCells l) w) (hgn : gn < B) (hB : B ≤ w.heap.size) (htab : Lib.TabIs Tryd.prog w "internal/strconv.uint64pow10" .u64 Lib.pow10Tab) :
    Calls Tryd.prog 46 #[.int .i64 60000, .string { data := #[109] }, .pointer (some ⟨gn, 0, none⟩), .pointer (some ⟨gb, 0, none⟩)] w fun e w' => e = .returned (.tuple #[]) ∧ Blk w' gn 3 #[.int .i64 ((N % 60000 : Nat) : Int)] ∧ Lib.IsBuilder 62 5 B gb (Lib.byteCells (l ++ partF (N / 60000) [109])) w' ∧ Below gn w w' :=
  part_any N 60000 (N / 60000) (N % 60000) [109] l gn gb B w hN (by omega) (by omega) rfl rfl (by simp) hl kn kb hgn hB htab
theorem part_s (N : Nat) (l : List UInt8) (gn gb B : Nat) (w : World) (hN : N ≤ 4294967295) (hl : l.length ≤ 1000000000000) (kn : Blk w gn 3 #[.int .i64 (N : Int)]) (kb : Lib.IsBuilder 62 5 B gb (Lib.byteCells l) w) (hgn : gn < B) (hB : B ≤ w.heap.size) (htab : Lib.TabIs Tryd.prog w "internal/strconv.uint64pow10" .u64 Lib.pow10Tab) :
    Calls Tryd.prog 46 #[.int .i64 1000, .string { data := #[115] }, .pointer (some ⟨gn, 0, none⟩), .pointer (some ⟨gb, 0, none⟩)] w fun e w' => e = .returned (.tuple #[]) ∧ Blk w' gn 3 #[.int .i64 ((N % 1000 : Nat) : Int)] ∧ Lib.IsBuilder 62 5 B gb (Lib.byteCells (l ++ partF (N / 1000) [115])) w' ∧ Below gn w w' :=
  part_any N 1000 (N / 1000) (N % 1000) [115] l gn gb B w hN (by omega) (by omega) rfl rfl (by simp) hl kn kb hgn hB htab
theorem part_z (N : Nat) (l : List UInt8) (gn gb B : Nat) (w : World) (hN : N ≤ 4294967295) (hl : l.length ≤ 1000000000000) (kn : Blk w gn 3 #[.int .i64 (N : Int)]) (kb : Lib.IsBuilder 62 5 B gb (Lib.byteCells l) w) (hgn : gn < B) (hB : B ≤ w.heap.size) (htab : Lib.TabIs Tryd.prog w "internal/strconv.uint64pow10" .u64 Lib.pow10Tab) :
    Calls Tryd.prog 46 #[.int .i64 1, .string { data := #[109, 115] }, .pointer (some ⟨gn, 0, none⟩), .pointer (some ⟨gb, 0, none⟩)] w fun e w' => e = .returned (.tuple #[]) ∧ Blk w' gn 3 #[.int .i64 ((N % 1 : Nat) : Int)] ∧ Lib.IsBuilder 62 5 B gb (Lib.byteCells (l ++ partF (N / 1) [109, 115])) w' ∧ Below gn w w' :=
  part_any N 1 (N / 1) (N % 1) [109, 115] l gn gb B w hN (by omega) (by omega) rfl rfl (by simp) hl kn kb hgn hB htab
end Go.Proofs.YtckjnlonijodcaaDoor.Tx
