/-
  What TasksBest asks of an order (its inner function); parts of a slice of records. Conditions: the list reads.
-/
import Derived.Test.YthnpeekeoaiaoaaBst1
import Derived.Test.YthnpeekeoaiaoaaBst2
import Derived.Test.YthnpeekeoaiaoaaApl
import Derived.Test.YthnpeekeoaiaoaaMem
import Derived.Test.YthnpeekeoaiaoaaRecs
import Derived.Deep.RegionHeld3
import Derived.Deep.DeepCutAuto
namespace Go.Proofs.Ythnpeekeoaiaoaa.Task
open Go.RowKit Go.Proofs.Ythnpeekeoaiaoaa.W Go.Proofs.Ythnpeekeoaiaoaa.Ints

theorem Rd.fore {w : World} {A : Option Addr} {n : Nat} {L : List TD} (h : Rd w 5 A n (tasksV L)) {i : Nat} (hi : i ≤ n) : Rd w 5 A i (tasksV (L.take i)) := by
  have hl := Rd.rec_len TD.len (by omega) h
  refine ⟨by rw [tasksV, flat_len TD.len, List.length_take]; omega, fun h0 => ?_⟩
  obtain ⟨b, o, e, hc⟩ := h.2 (by omega)
  refine ⟨b, o, e, fun j x hx => hc j x ?_⟩
  have e : tasksV L = tasksV (L.take i) ++ tasksV (L.drop i) := by rw [tasksV, tasksV, tasksV, ← List.flatMap_append, List.take_append_drop]
  rw [e, List.getElem?_append_left (List.getElem?_eq_some_iff.1 hx).1]
  exact hx
theorem Rd.aft {w : World} {b o n : Nat} {L : List TD} (h : Rd w 5 (some ⟨b, o, none⟩) n (tasksV L)) {i : Nat} (hi : i ≤ n) : Rd w 5 (some ⟨b, o + i * 5, none⟩) (n - i) (tasksV (L.drop i)) := by
  have hl := Rd.rec_len TD.len (by omega) h
  refine ⟨by rw [tasksV, flat_len TD.len, List.length_drop]; omega, fun h0 => ⟨_, _, rfl, fun j x hx => ?_⟩⟩
  obtain ⟨b', o', e, hc⟩ := h.2 (by omega)
  injection e with e
  injection e with e1 e2
  subst e1 e2
  have e : tasksV L = tasksV (L.take i) ++ tasksV (L.drop i) := by rw [tasksV, tasksV, tasksV, ← List.flatMap_append, List.take_append_drop]
  have hlen : (tasksV (L.take i)).length = i * 5 := by rw [tasksV, flat_len TD.len, List.length_take]; omega
  rw [Nat.add_assoc]
  refine hc _ x ?_
  rw [e, List.getElem?_append_right (by omega), hlen, Nat.add_sub_cancel_left]
  exact hx
def willB (ts : List TD) : Bool := (respondF ts).2.1 == 0
set_option maxRecDepth 100000 in
set_option maxHeartbeats 6400000 in
theorem will_any (A : Option Addr) (n c : Nat) (ts : List TD) (w : World) (hr : Rd w 5 A n (tasksV ts)) (hnc : n ≤ c) :
    Calls Try.prog 18 #[.slice A n c] w fun e w' => e = .returned (.bool (willB ts)) ∧ Below w.heap.size w w' := by
  have HR := Lib.hid (fun w' => Respond_any A n c ts w')
  have hr0 := Lib.hid hr
  clear hr
  obtain ⟨F, hF⟩ : ∃ F, respondF ts = F := ⟨_, rfl⟩
  have hw : Hid (willB ts = (F.2.1 == 0)) := by rw [Hid, willB, hF]
  generalize willB ts = B at hw ⊢
  rw [hF] at HR
  clear hF
  obtain ⟨O, f1, f2⟩ := F
  go_enter Try.func18, Try.ntmps18
  go_wp2_with fail
  refine (HR.out _ hr0.out hnc).mono ?_
  intro e w1 hf
  obtain ⟨A1, c1, rfl, ho, hb⟩ := hf
  have M1 := Lib.hid (((Mem.start w).below hb).alloc 26 #[.int .i64 f1, .int .i64 f2, .int .i64 0])
  clear ho hb
  have k0 := M1.out.cellK 0 rfl
  have hb := Lib.hid M1.out.bel
  go_wp2
  go_ret
  exact ⟨by rw [hw.out]; rfl, hb.out⟩

set_option maxRecDepth 100000 in
set_option maxHeartbeats 6400000 in
theorem shuffled_any : ∀ (k : Nat) (A A' : Option Addr) (n c n' c' : Nat) (L P : List TD) (w : World), n = k → Rd w 5 A n (tasksV L) → n ≤ c → c ≤ maxLen → Rd w 5 A' n' (tasksV P) → n' ≤ c' → n + n' ≤ 16 → (∀ y, y.Perm (P ++ L) → willB y = false) →
    Calls Try.prog 19 #[.slice A n c, .slice A' n' c', .func (.func 18) #[] #[]] w fun e w' => e = .returned (.bool false) ∧ Below w.heap.size w w' := by
  intro k
  induction k with
  | zero =>
    intro A A' n c n' c' L P w hk hr hnc hcm hr' hnc' h16 hno
    subst hk
    have hl := Rd.rec_len TD.len (by omega) hr
    have hW := Lib.hid (will_any A' n' c' P w hr' hnc')
    have hN := Lib.hid (hno P (by rw [List.length_eq_zero_iff.1 hl]; simp))
    clear hr hr' hno hl
    go_enter Try.func19, Try.ntmps19
    go_wp2_with fail
    refine hW.out.mono ?_
    rintro e w1 ⟨rfl, hb⟩
    rw [hN.out]
    have HB := Lib.hid hb
    clear hb
    go_wp2
    go_ret
    exact ⟨rfl, HB.out⟩
  | succ k ih =>
    intro A A' n c n' c' L P w hk hr hnc hcm hr' hnc' h16 hno
    obtain ⟨i0, hi0, hz0, hz1, hz2'⟩ := info_parts task_info
    have hl := Rd.rec_len TD.len (by omega) hr
    have hl' := Rd.rec_len TD.len (by omega) hr'
    have HR := Lib.hid hr
    have HR' := Lib.hid hr'
    have HN := Lib.hid hno
    have IH := Lib.hid ih
    have HL := Lib.hid (And.intro hl hl')
    clear hr hr' hno ih hl hl'
    have hn0 : ((n : Int) == 0) = false := beq_eq_false_iff_ne.2 (by omega)
    have HK := Lib.hid hk
    clear hk
    go_enter Try.func19, Try.ntmps19
    go_wp2_with fail
    go_loopw [7] (fun v7 wr => ∃ i : Nat, i ≤ n ∧ v7 = .int .i64 i ∧ Hid (Below w.heap.size w wr)) (fun v _ => n - (intOf v).toNat)
    case atStart => exact ⟨0, Nat.zero_le _, rfl, Below.refl _ _⟩
    case round =>
      obtain ⟨i, hi, rfl, HB⟩ := hrel
      by_cases hin : i < n
      · obtain ⟨b, o, t, rfl, ht, hbl, d0, d1, d2, d3, d4⟩ := task_at (HR.out.below HB.out) hin
        have hi0' : (0 : Int) ≤ (i : Int) := by omega
        have hi1 : (i : Int) < (n : Int) := by omega
        have hw1 : IntKind.i64.wrap ((i : Int) + 1) = (i : Int) + 1 := by simp [IntKind.wrap, IntKind.bits, IntKind.signed]; omega
        have hic : i ≤ c := by omega
        have hic1 : i + 1 ≤ n := by omega
        have hic2 : (i : Int) + 1 ≤ (n : Int) := by omega
        go_upto_region 6 with fail
        have R1 := Lib.hid (Rd.fore (HR.out.below HB.out) hi)
        obtain ⟨D, hD, R2⟩ : ∃ D, (if c = i + 1 then some (⟨b, o, none⟩ : Addr) else some ⟨b, o + (i + 1) * 5, none⟩) = D ∧ Hid (Rd wr 5 D (n - (i + 1)) (tasksV (L.drop (i + 1)))) := by
          refine ⟨_, rfl, ?_⟩
          split
          · have hz : n - (i + 1) = 0 := by omega
            rw [hz, List.drop_of_length_le (by rw [HL.out.1]; omega)]
            exact Rd.nil _ _ _
          · exact Rd.aft (HR.out.below HB.out) (show i + 1 ≤ n by omega)
        have hic3 : (0 : Int) ≤ (i : Int) + 1 := by omega
        go_region_held3 (fun _ => True) (trivial)
          (first
            | (refine step_append_sl _ (by rfl) _ _ _ (by rfl) wr.heap.size 42 i0 _ 5 48 Try.underlying22 hi0 hz0 hz1 hz2' rfl (by omega) (.slice none 0 0) 0 [] (by rfl) (World.ownsRow_nil _ _ _ _) (some ⟨b, o, none⟩) i c (tasksV (L.take i)) (by rfl) (R1.out.drew) (tasks_one _) (by unfold maxLen; omega) (by omega) (by simp) i (by omega) ?_
               intro A1 c1 w1 ho1 hg1 hat1)
            | (refine step_append_sl _ (by rfl) _ _ _ (by rfl) wr.heap.size 42 i0 _ 5 48 Try.underlying22 hi0 hz0 hz1 hz2' rfl (by omega) (.slice A1 i c1) i ([] ++ tasksV (L.take i)) (by rfl) ho1 D (n - (i + 1)) (c - (i + 1)) (tasksV (L.drop (i + 1))) (by rfl) (R2.out.drew.below (grow_none hg1)) (tasks_one _) (by unfold maxLen; omega) (by omega) (by have := hg1.size; simpa using this) (n - 1) (by omega) ?_
               intro A2 c2 w2 ho2 hg2 hat2))
        have M2 : Hid (Mem wr w2 [] [⟨42, 5, A2, n - 1, c2, tasksV (L.eraseIdx i)⟩]) := by
          have h := (((Mem.start wr).drew).made (grow_none hg1) ho1).grow hg2 ho2 (by simpa using hat2)
          rw [List.nil_append, tasksV, tasksV, ← List.flatMap_append, ← List.eraseIdx_eq_take_drop_succ] at h
          exact h
        clear ho1 hg1 hat1 ho2 hg2 hat2 R1 R2 hD
        have hcell : ∀ w', Below wr.heap.size wr w' → w'.cell? ⟨b, o + i * 5, none⟩ = some (.string t.name) ∧ w'.cell? ⟨b, o + i * 5 + 1, none⟩ = some (.int .i64 t.per) ∧ w'.cell? ⟨b, o + i * 5 + 2, none⟩ = some (.int .i64 t.off) ∧ w'.cell? ⟨b, o + i * 5 + 3, none⟩ = some (.int .i64 t.cost) ∧ w'.cell? ⟨b, o + i * 5 + 4, none⟩ = some (.int .i64 t.dead) :=
          fun w' h => ⟨(h.cell hbl).trans d0, (h.cell hbl).trans d1, (h.cell hbl).trans d2, (h.cell hbl).trans d3, (h.cell hbl).trans d4⟩
        have HC := Lib.hid hcell
        clear hcell d0 d1 d2 d3 d4
        have hq0 := HC.out _ M2.out.bel
        have RP := Lib.hid ((HR'.out.below HB.out).below M2.out.bel)
        have hk1 : n - 1 = k := by have := HK.out; omega
        rw [hk1] at M2
        have hpm : Hid (∀ y, y.Perm ((P ++ [t]) ++ L.eraseIdx i) → willB y = false) := by
          intro y hy
          refine HN.out y (hy.trans ?_)
          rw [List.append_assoc, List.singleton_append]
          exact List.Perm.append_left P (perm_up L i t ht)
        have hev : tasksV P ++ t.cs = tasksV (P ++ [t]) := by simp [tasksV]
        have hs1 := (M2.out.shapeO 0 rfl).1
        have hs2 := (M2.out.shapeO 0 rfl).2.1
        have hz2 := M2.out.base
        have hlp : n' + 1 ≤ 17 := by omega
        have hl16 : k + (n' + 1) ≤ 16 := by omega
        have hml : n' + 1 ≤ maxLen := by unfold maxLen; omega
        have hTO := tasks_one P
        have hT1 : ∀ u ∈ t.cs, u.oneCell' = true := by simp [TD.cs, Value.oneCell']
        clear ht
        have MB := Lib.hid ((M2.out.alloc 42 #[.string t.name, .int .i64 t.per, .int .i64 t.off, .int .i64 t.cost, .int .i64 t.dead]).drew)
        have qB := HC.out _ MB.out.bel
        have RB := Lib.hid (RP.out.alloc (.cells #[.string t.name, .int .i64 t.per, .int .i64 t.off, .int .i64 t.cost, .int .i64 t.dead] 42))
        go_upto_region 7 with fail
        go_region_held3 (fun w' => w'.cell? ⟨b, o + i * 5, none⟩ = some (.string t.name) ∧ w'.cell? ⟨b, o + i * 5 + 1, none⟩ = some (.int .i64 t.per) ∧ w'.cell? ⟨b, o + i * 5 + 2, none⟩ = some (.int .i64 t.off) ∧ w'.cell? ⟨b, o + i * 5 + 3, none⟩ = some (.int .i64 t.cost) ∧ w'.cell? ⟨b, o + i * 5 + 4, none⟩ = some (.int .i64 t.dead))
          (first | exact hq0 | exact qB | exact q3 | exact q3' | exact q4 | exact q5 | fail)
          (first
            | (refine step_append_sl _ (by rfl) _ _ _ (by rfl) w2.heap.size 42 i0 _ 5 48 Try.underlying22 hi0 hz0 hz1 hz2' rfl (by omega) (.slice none 0 0) 0 [] (by rfl) (World.ownsRow_nil _ _ _ _) A' n' c' (tasksV P) (by rfl) (RP.out.drew) hTO (by unfold maxLen; omega) (by omega) (by exact Nat.le_refl _) n' (by omega) ?_
               intro A3 c3 w3 ho3 hg3 hat3
               rw [List.nil_append] at ho3
               have M3 := Lib.hid (M2.out.drew.made (grow_none hg3) ho3)
               have M3' := Lib.hid (M3.out.alloc 42 #[.string t.name, .int .i64 t.per, .int .i64 t.off, .int .i64 t.cost, .int .i64 t.dead])
               have q3 := HC.out _ M3.out.bel
               have q3' := HC.out _ M3'.out.bel)
            | (refine step_append_sl _ (by rfl) _ _ _ (by rfl) wr.heap.size 42 i0 _ 5 48 Try.underlying22 hi0 hz0 hz1 hz2' rfl (by omega) (.slice A3 n' c3) n' (tasksV P) (by rfl) (M3'.out.rowO 0 rfl) (some ⟨w3.heap.size, 0, none⟩) 1 1 t.cs (by rfl) (rd_newR w3 42 #[.string t.name, .int .i64 t.per, .int .i64 t.off, .int .i64 t.cost, .int .i64 t.dead]) hT1 hml (by omega) M3'.out.base (n' + 1) rfl ?_
               intro A4 c4 w4 ho4 hg4 hat4
               rw [hev] at ho4
               have M4 := Lib.hid (M3.out.appd hg4 ho4 (by simpa using hat4))
               have q4 := HC.out _ M4.out.bel)
            | (refine step_append_sl _ (by rfl) _ _ _ (by rfl) (w2.heap.size + 1) 42 i0 _ 5 48 Try.underlying22 hi0 hz0 hz1 hz2' rfl (by omega) (.slice none 0 0) 0 [] (by rfl) (World.ownsRow_nil _ _ _ _) A' n' c' (tasksV P) (by rfl) (RB.out.drew) hTO (by unfold maxLen; omega) (by omega) (by simp) n' (by omega) ?_
               intro A3 c3 w3 ho3 hg3 hat3
               rw [List.nil_append] at ho3
               have M3B := Lib.hid (MB.out.made (grow_none hg3) (own_rebase ho3 (by simp; exact fun x hx => (own_blk_lt ho3 x hx).1)))
               have q3 := HC.out _ M3B.out.bel)
            | (refine step_append_sl _ (by rfl) _ _ _ (by rfl) wr.heap.size 42 i0 _ 5 48 Try.underlying22 hi0 hz0 hz1 hz2' rfl (by omega) (.slice A3 n' c3) n' (tasksV P) (by rfl) (M3B.out.rowO 0 rfl) (some ⟨w2.heap.size, 0, none⟩) 1 1 t.cs (by rfl) (rd_box (M3B.out.blkK 0 rfl)) hT1 hml (by omega) M3B.out.base (n' + 1) rfl ?_
               intro A4 c4 w4 ho4 hg4 hat4
               rw [hev] at ho4
               have M4 := Lib.hid ((M3B.out.grow hg4 ho4 hat4).delK 0)
               have q4 := HC.out _ M4.out.bel)
            | (go_at_call 19
               refine (IH.out A2 A4 k c2 (n' + 1) c4 (L.eraseIdx i) (P ++ [t]) w4 rfl (M4.out.rdO 1 rfl) hs1 hs2 (M4.out.rdO 0 rfl) (M4.out.shapeO 0 rfl).1 hl16 hpm.out).mono ?_
               rintro e w5 ⟨rfl, hb5⟩
               have M5 := Lib.hid (M4.out.below hb5)
               have q5 := HC.out _ M5.out.bel))
        all_goals
          have HB5 := Lib.hid (HB.out.trans (M5.out.bel.mono HB.out.size))
          clear q5 q4 q3 M5 M4 hq0 qB MB M2 HC
          go_wp2
          go_roundw
          case rel => exact ⟨i + 1, by omega, by go_num, HB5⟩
          case measure => simp [intOf]; omega
      · have hb := HB
        have hin' : ¬ (i : Int) < (n : Int) := by omega
        go_wp2
        go_ret
        exact ⟨rfl, hb.out⟩
end Go.Proofs.Ythnpeekeoaiaoaa.Task
