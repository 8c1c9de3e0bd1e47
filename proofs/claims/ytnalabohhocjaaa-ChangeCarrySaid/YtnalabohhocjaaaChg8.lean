/-
  The program's index: a map from what slots have in common to their places. Conditions: the list reads.
-/
import Derived.Test.YtnalabohhocjaaaChg7
import Derived.Test.YtnalabohhocjaaaRng2
import Derived.Maps.OwnIn
import Derived.Stop.RegionWithIn
import Derived.Sort.CutIn
namespace Go.Proofs.Ytnalabohhocjaaa.Chg
open Go.RowKit Go.Shelf Go.Maps Go.Proofs.Ytnalabohhocjaaa.W Go.Proofs.Ytnalabohhocjaaa.Ints Go.Proofs.Ytnalabohhocjaaa.Cod

attribute [local go_sem] Oper.semAt_some
attribute [local go_sem] wide_askedP wide_fnP

abbrev OwnM (w : World) (g n : Nat) (D : DataW Unit) : Prop := w.ownsMap Try.prog 60 (plainElem Try.prog 3) g n D
/-- what a round leaves -/
structure CarM (w : World) (z gm gv Bl : Nat) (A : Option Addr) (n c : Nat) (sl : List SL) (k : Nat) (W : World) : Prop where
  len : k ≤ n
  own : OwnM W gm k (backF sl k)
  var : Boxed W gv 55 (.map (some gm))
  bel : Below w.heap.size w W
  siz : z ≤ W.heap.size
theorem CarM.turn {w : World} {z gm gv Bl : Nat} {A : Option Addr} {n c : Nat} {sl : List SL} {k : Nat} {W W' : World} {row : Option Nat} (h : CarM w z gm gv Bl A n c sl k W) (hm : gm < z) (hv : gv < z) (hz : w.heap.size ≤ z) (hg : W.grownBy W' row) (hr : ∀ r, row = some r → z ≤ r) : CarM w z gm gv Bl A n c sl k W' :=
  ⟨h.len, h.own.kept hg (fun e => by have := hr gm e.symm; omega), h.var.kept hg (fun e => by have := hr gv e.symm; omega), h.bel.grown hg (by have := h.bel.size; omega) (fun r e => by have := hr r e; omega), Nat.le_trans h.siz hg.size⟩

theorem own_below {w w' : World} {g n : Nat} {D : DataW Unit} (h : OwnM w g n D) (hb : Below w.heap.size w w') : OwnM w' g n D := by
  obtain ⟨es, clock, h1, h2⟩ := h
  exact ⟨es, clock, (hb.block g (Array.getElem?_eq_some_iff.1 h1).1).trans h1, h2⟩

theorem CarM.step {w : World} {z gm gv Bl : Nat} {A : Option Addr} {n c : Nat} {sl : List SL} {k : Nat} {W w5 w6 : World} (h : CarM w z gm gv Bl A n c sl k W) (hk : k < n) (hb : Below W.heap.size W.drew w5) (hg : w5.grownBy w6 (some gm)) (ho : OwnM w6 gm (k + 1) (backF sl (k + 1)))
    (h0 : w.heap.size ≤ gm) (h1 : gm < gv) (h2 : gv < z) : KeepsFrom z W w6 ∧ (∀ j, j < W.heap.size → j ≠ gm → w6.heap[j]? = W.heap[j]?) ∧ CarM w z gm gv Bl A n c sl (k + 1) w6 := by
  have hz : W.heap.size ≤ w5.heap.size := hb.size
  have hj : ∀ j, j < W.heap.size → j ≠ gm → w6.heap[j]? = W.heap[j]? := fun j hj hne => (hg.block j (by omega) (fun e => hne (by injection e))).trans (hb.block j hj)
  refine ⟨⟨Nat.le_trans hz hg.size, fun i o hi ho hc => ?_⟩, hj, hk, ho, ?_, ?_, Nat.le_trans h.siz (Nat.le_trans hz hg.size)⟩
  · exact (hj i (Array.getElem?_eq_some_iff.1 ho).1 (by omega)).trans ho
  · exact (hj gv h.var.lt (by omega)).trans h.var
  · exact ((below_drewN h.bel 1).trans (hb.mono h.bel.size)).grown hg (by have := h.bel.size; omega) (fun r e => by injection e with e; omega)

set_option maxRecDepth 100000 in
set_option maxHeartbeats 6400000 in
theorem index_any (A : Option Addr) (n c : Nat) (sl : List SL) (w : World) (hr : Rd w 6 A n (slotsV sl)) (hok : ∀ s ∈ sl, s.ok) (hn : n ≤ 20000) :
    Calls Try.prog 17 #[.slice A n c] w fun e w' => ∃ g, e = .returned (.map (some g)) ∧ w.heap.size ≤ g ∧ OwnM w' g n (mapF sl 0) ∧ Below w.heap.size w w' := by
  have HL : Hid (sl.length = n) := Lib.hid (Rd.rec_len SL.size (by omega) hr)
  have HR := Lib.hid hr
  have HOK := Lib.hid hok
  have hmm := @run_makeMap Try.prog
  clear hr hok
  refine (callsIn_wide (n := 5)).1 ?_
  refine callsIn_of_wp_marks Try.func17 rfl trivial ?_ rfl
  simp only [Try.ntmps17, List.size_toArray, List.length_cons, List.length_nil, Nat.reduceAdd, Nat.reduceSub, Array.replicate_succ, Array.replicate_zero, List.push_toArray, List.append_toArray, List.nil_append, List.cons_append]
  refine wpIn_wide.2 ?_
  go_wp2_with fail
  refine (callsIn_wide.1 (backw_in 4 A n c _)).mono ?_
  rintro e w3 ⟨rfl, rfl⟩
  go_wp2
  have hv0 : Boxed (((w.alloc (Obj.map #[] 0)).alloc (Obj.cells #[Value.map (some w.heap.size)] 55)).alloc (Obj.cells #[Value.slice A n c] 24)) (w.heap.size + 1) 55 (.map (some w.heap.size)) := by
    have h := Boxed.new (w.alloc (Obj.map #[] 0)) 55 (.map (some w.heap.size))
    rw [World.size_alloc] at h
    exact h.alloc _
  have hb0 : Boxed (((w.alloc (Obj.map #[] 0)).alloc (Obj.cells #[Value.map (some w.heap.size)] 55)).alloc (Obj.cells #[Value.slice A n c] 24)) (w.heap.size + 1 + 1) 24 (.slice A n c) := by
    have h := Boxed.new ((w.alloc (Obj.map #[] 0)).alloc (Obj.cells #[Value.map (some w.heap.size)] 55)) 24 (.slice A n c)
    rw [World.size_alloc, World.size_alloc] at h
    exact h
  have ho0 : OwnM (((w.alloc (Obj.map #[] 0)).alloc (Obj.cells #[Value.map (some w.heap.size)] 55)).alloc (Obj.cells #[Value.slice A n c] 24)) w.heap.size 0 (backF sl 0) := by
    rw [back_zero]
    exact ((World.ownsMap_made w _ _ _).alloc _).alloc _
  have hbel0 : Below w.heap.size w (((w.alloc (Obj.map #[] 0)).alloc (Obj.cells #[Value.map (some w.heap.size)] 55)).alloc (Obj.cells #[Value.slice A n c] 24)) :=
    (((Below.refl _ w).alloc (Nat.le_refl _) _).alloc (by simp) _).alloc (by simp; omega) _
  have zN : (((w.alloc (Obj.map #[] 0)).alloc (Obj.cells #[Value.map (some w.heap.size)] 55)).alloc (Obj.cells #[Value.slice A n c] 24)).heap.size = w.heap.size + 3 := by simp
  generalize World.alloc (World.alloc (World.alloc w _) _) _ = w4 at hv0 hb0 ho0 hbel0 zN ⊢
  generalize hgm : w.heap.size = gm at hv0 hb0 ho0 zN ⊢
  rw [hgm] at hbel0
  have hc0 : Hid (CarM w w4.heap.size gm (gm + 1) (gm + 1 + 1) A n c sl 0 w4) := ⟨Nat.zero_le _, ho0, hv0, by rw [hgm]; exact hbel0, Nat.le_refl _⟩
  have HB0 := Lib.hid hb0
  have HGM := Lib.hid hgm
  clear hv0 hb0 ho0 hgm hmm
  refine (wpIn_wide (n := 5)).1 ?_
  refine range_nextA rfl (by omega) (gf := 28) (lb := #[.pointer (some ⟨gm + 1 + 1, 0, none⟩)]) rfl trivial (enters_of Try.func28 (by kernel_rfl) rfl)
    (encs := fun x : Nat × SL => #[.int .i64 (x.1 : Int), SL.val x.2]) (Nx := Nxt sl n) (S := fun xs => xs.length = n)
    (Kp := KpB (gm + 1 + 1) A n c sl) (E := 3) ?seq (fun h k => h.trans k) ?kb ?ka (fun _ => rfl)
    (fun pre W => CarM w w4.heap.size gm (gm + 1) (gm + 1 + 1) A n c sl pre.length W)
    ?own ?ownE hc0.out (fun gs x => { tmps := #[.slice A n c, undef, .map none, .pointer (some ⟨gm + 1, 0, none⟩), .int .i64 (x.1 : Int), .pointer (some ⟨gs, 0, none⟩), .map (some gm), .slice A n c, .func (.func 28) #[] #[.pointer (some ⟨gm + 1 + 1, 0, none⟩)], .int .i64 (x.1 : Int), SL.val x.2, undef, undef, undef, undef, undef], defers := [] })
    (fun x => .cells (slC x.2) 50) (fun _ => rfl) ?assign ?body ?done
  case seq =>
    intro l J W hW hJ hY hJ0
    refine (back1_in 4 (by omega) l (gm + 1 + 1) n c A sl hn J (fun pre x W1 h1 h2 => hY pre x W1 h1 h2) W ((hW.block _ HB0.out.lt).trans HB0.out) ((HR.out.below (by rw [HGM.out]; exact hbel0)).below hW) hJ0).mono ?_
    rintro e W' ⟨hv, xs, h1, h2⟩
    exact ⟨hv, xs, h1, h2⟩
  case kb =>
    intro W l o o' hl ho hc
    refine ⟨fun h => h.kept (grownBy_putObj' W l o') (fun e => by injection e with e; omega), fun h => ⟨h.1, fun h1 => ?_⟩⟩
    obtain ⟨b, q, e1, e2⟩ := h.2 h1
    exact ⟨b, q, e1, fun j u hj => cell_kept (e2 j u hj) (grownBy_putObj' W l o') (fun r e => by cases e; exact ⟨o, ho, hc⟩)⟩
  case ka =>
    intro W o
    exact ⟨fun h => h.alloc o, fun h => h.alloc o⟩
  case own =>
    intro pre W W' row h hg hr
    exact h.turn (by omega) (by omega) (by rw [HGM.out]; omega) hg (fun r e => (hr r e).1)
  case ownE =>
    intro pre W W' row h hg hr
    exact h.turn (by omega) (by omega) (by rw [HGM.out]; omega) hg (fun r e => (hr r e).1)
  case assign =>
    intro l x W K hK
    obtain ⟨i, s⟩ := x
    gi_wp2
    exact hK
  case body =>
    rintro l pre ⟨i, s⟩ gs W hc ⟨hx1, hx2, hx3⟩ hgs hz
    dsimp only at hx2 hx3 hgs
    have hb : Blk W gs 50 (slC s) := hgs
    have y0 := hb.cell 0
    have y1 := hb.cell 1
    have y2 := hb.cell 2
    have y3 := hb.cell 3
    have y4 := hb.cell 4
    have y5 := hb.cell 5
    simp only [slC, List.getElem?_toArray, List.getElem?_cons_zero, List.getElem?_cons_succ] at y0 y1 y2 y3 y4 y5
    have cv := hc.var.cell
    have hs := HOK.out s (List.mem_of_getElem? hx3)
    have hbnd : reachBytes ≤ maxLen := by decide
    have hnm : n < maxLen := by unfold maxLen; omega
    have HV : Hid (∀ w', Below W.drew.heap.size W.drew w' → w'.cell? ⟨gm + 1, 0, none⟩ = some (.map (some gm))) := Lib.hid fun w' hb => Boxed.cell (W := w') (B := gm + 1) (t := 55) ((hb.block (gm + 1) hc.var.lt).trans hc.var)
    have HM : Hid (∀ w5, Below W.drew.heap.size W.drew w5 → ∃ w6, (Instr.mapUpdate 55 (.map (some gm)) (keyV s) (.int .i64 (i : Int))).run Try.prog w5 = .ok () w6 ∧ KeepsFrom w4.heap.size W w6 ∧ KpB (gm + 1 + 1) A n c sl W w6 ∧ CarM w w4.heap.size gm (gm + 1) (gm + 1 + 1) A n c sl (pre ++ [(i, s)]).length w6) := Lib.hid fun w5 hb5 => by
      have ho5 : OwnM w5 gm pre.length (backF sl pre.length) := own_below (w := W.drew) hc.own hb5
      obtain ⟨w6, r1, r2, r3⟩ := ho5.update lawK Try.underlying55 (by omega) (key_of s (Nat.le_trans hs.1 hbnd) hs.2.1 hs.2.2.2.1) (plainElem_int Try.underlying3 (q := .i64) (a := (i : Int)) (WalkArith.wf_i64 (by omega)))
      have e1 : (backF sl pre.length).put (keyL s) (.lit (.int .i64 (i : Int))) = backF sl (pre.length + 1) := by
        have h := back_next (l := sl) (k := pre.length) (s := s) (by rw [HL.out]; exact hx3) (by rw [HL.out]; exact hx1)
        rw [HL.out, ← hx2] at h
        exact h.symm
      rw [e1] at r2
      obtain ⟨s1, s2, s3⟩ := hc.step hx1 hb5 r3 r2 (by rw [HGM.out]; exact Nat.le_refl _) (by omega) (by omega)
      refine ⟨w6, r1, s1, ⟨fun h => (s2 _ h.lt (by omega)).trans h, fun _ => HR.out.below s3.bel⟩, by rw [List.length_append]; exact s3⟩
    clear hgs hb hc hs hx2 hx3
    dsimp only
    gi_upto_region 5 with fail
    gi_region_with (refine (CallsIn.inRound l (callsIn_wide.2 (keyOf_any s _))).mono ?_; rintro e w5 ⟨rfl, hb5⟩; have cv5 := HV.out _ hb5; obtain ⟨w6, hrun, hg1, hg2, hg3⟩ := HM.out _ hb5)
    all_goals exact ⟨hg1, hg2, hg3⟩
  case done =>
    rintro D xs W hD hS hc hdef
    rw [hS] at hc
    have cv := hc.var.cell
    have HC := Lib.hid hc
    have HDEF := Lib.hid hdef
    have e0 : backF sl n = mapF sl 0 := by rw [← HL.out]; exact back_all sl
    have HE := Lib.hid e0
    clear hc hdef e0
    go_wp2
    refine ⟨by simp, .inl ⟨_, _, rfl, run_takeDeferred HDEF.out, ?_⟩⟩
    refine ⟨.map (some gm), ?_, ?_⟩
    · simp [results, Try.results17, go_sem]
    · have h1 := HC.out.own.kept (grownBy_putObj' W D (.deferred none)) (fun e => by injection e with e; omega)
      rw [HE.out] at h1
      refine ⟨gm, rfl, by rw [HGM.out]; exact Nat.le_refl _, h1, HC.out.bel.trans (belowK_b (w := w4) (by rw [HGM.out]; omega) W D _ (.deferred none) (by omega) HDEF.out rfl rfl)⟩
end Go.Proofs.Ytnalabohhocjaaa.Chg
