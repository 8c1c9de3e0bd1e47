/-
  copyCode: a copy of code, with marks in its lists' spare room. Conditions: the code reads, within the reach.
-/
import Derived.Test.YtiogcbckhaknmaaDoorCod1
import Derived.Test.YtiogcbckhaknmaaDoorRmy
import Derived.Test.YtiogcbckhaknmaaDoorMem2
import Derived.Test.YtiogcbckhaknmaaDoorApl
import Derived.Test.YtiogcbckhaknmaaDoorHeld2
import Derived.Deep.DeepCutAuto
namespace Go.Proofs.YtiogcbckhaknmaaDoor.Cod
open Go.RowKit Go.Proofs.YtiogcbckhaknmaaDoor.W Go.Proofs.YtiogcbckhaknmaaDoor.Ints

theorem roomy_row {w0 w : World} {Ks : List Box} {Os : List Row} (A : Option Addr) (n c : Nat) (l : List Int) (h : Hid (Mem w0 w Ks Os)) (hr : Rd w 1 A n (ints l)) (hn : n * 8 ≤ 140737488351232) :
    Calls Tryd.prog 19 #[.slice A n c] w fun e w' => ∃ g, e = .returned (.slice (some ⟨g, 0, none⟩) n (n + 5)) ∧ Mem w0 w' Ks (⟨3, 1, some ⟨g, 0, none⟩, n + 5, n + 5, ints (l ++ marks n)⟩ :: Os) := by
  have hl : l.length = n := by simpa [ints] using hr.len
  refine (roomy_any A n c l w hr hn).mono ?_
  rintro e w' ⟨g, rfl, hg, hk, hb⟩
  refine ⟨g, rfl, h.out.made hb ⟨by simp [ints, hl, marks_len], .inr ⟨g, n + 5, _, rfl, hg, hk, Nat.le_refl _, by unfold maxLen; omega, by simp [ints, hl, marks_len], ?_⟩⟩⟩
  rw [show (n + 5) * 1 = (ints (l ++ marks n)).length from by simp [ints, hl, marks_len]]
  exact List.take_length
theorem slot_info : (Tryd.prog.info? 61).map (fun i => (i.zero, i.size, i.bytes)) = some (some (.agg #[.string ByteArray.empty, .int .i64 0, .int .i64 0, .int .i64 0, .bool false, .int .i64 0]), 6, 56) := by kernel_rfl
theorem instr_info : (Tryd.prog.info? 50).map (fun i => (i.zero, i.size, i.bytes)) = some (some (.agg #[.int .i64 0, .int .i64 0, .int .i64 0, .int .i64 0]), 4, 32) := by kernel_rfl
theorem proc_info : (Tryd.prog.info? 43).map (fun i => (i.zero, i.size, i.bytes)) = some (some (.agg #[.int .i64 0, .string ByteArray.empty, .slice none 0 0, .slice none 0 0, .slice none 0 0]), 5, 96) := by kernel_rfl
def markI : IN := ⟨0, -9, 0, 0⟩
/-- a copied proc -/
structure PCp (lo : Nat) (w : World) (v : PV) (p : PD) : Prop where
  rd : PRd w v p
  slots : w.ownsRow lo 61 6 (.slice v.sA v.sn v.sc) v.sn (slotsV p.slots)
  first : ∃ g, v.fA = some ⟨g, 0, none⟩ ∧ v.fc = v.fn + 5 ∧ w.ownsRow lo 3 1 (.slice (some ⟨g, 0, none⟩) (v.fn + 5) (v.fn + 5)) (v.fn + 5) (ints (p.first ++ marks v.fn))
  text : ∃ g, v.tA = some ⟨g, 0, none⟩ ∧ w.ownsRow lo 50 4 (.slice (some ⟨g, 0, none⟩) (v.tn + 1) v.tc) (v.tn + 1) (textV (p.text ++ [markI]))
theorem PCp.below {lo : Nat} {w w' : World} {v : PV} {p : PD} (h : PCp lo w v p) (hb : Below w.heap.size w w') : PCp lo w' v p := by
  obtain ⟨g, e1, e2, h1⟩ := h.first
  obtain ⟨g', e3, h2⟩ := h.text
  exact ⟨h.rd.below hb, own_below h.slots hb, ⟨g, e1, e2, own_below h1 hb⟩, ⟨g', e3, own_below h2 hb⟩⟩
/-- its lists lie in other blocks -/
def PV.apart (v : PV) (g : Nat) : Prop := (∀ x, v.fA = some x → x.block ≠ g) ∧ (∀ x, v.sA = some x → x.block ≠ g) ∧ (∀ x, v.tA = some x → x.block ≠ g)
theorem PCp.grown {lo : Nat} {w w' : World} {v : PV} {p : PD} {r : Option Nat} (h : PCp lo w v p) (hg : w.grownBy w' r) (hr : ∀ x, r = some x → v.apart x) : PCp lo w' v p := by
  obtain ⟨g, e1, e2, h1⟩ := h.first
  obtain ⟨g', e3, h2⟩ := h.text
  have n1 : ∀ a, v.fA = some a → some a.block ≠ r := fun a ha e => (hr _ e.symm).1 a ha rfl
  have n2 : ∀ a, v.sA = some a → some a.block ≠ r := fun a ha e => (hr _ e.symm).2.1 a ha rfl
  have n3 : ∀ a, v.tA = some a → some a.block ≠ r := fun a ha e => (hr _ e.symm).2.2 a ha rfl
  refine ⟨⟨h.rd.kind, h.rd.name, h.rd.first.grown hg n1, h.rd.slots.grown hg n2, h.rd.text.grown hg n3⟩, own_grown h.slots hg ?_, ⟨g, e1, e2, own_grown h1 hg ?_⟩, ⟨g', e3, own_grown h2 hg ?_⟩⟩
  · intro x hx
    cases hA : v.sA with
    | none => rw [hA] at hx; simp [Value.ownBlock] at hx
    | some a => rw [hA] at hx; simp [Value.ownBlock] at hx; subst hx; exact n2 a hA
  · intro x hx
    simp [Value.ownBlock] at hx
    subst hx
    exact n1 _ e1
  · intro x hx
    simp [Value.ownBlock] at hx
    subst hx
    exact n3 _ e3
theorem PCp.weaken {lo lo' : Nat} {w : World} {v : PV} {p : PD} (h : PCp lo w v p) (hl : lo' ≤ lo) : PCp lo' w v p := by
  obtain ⟨g, e1, e2, h1⟩ := h.first
  obtain ⟨g', e3, h2⟩ := h.text
  exact ⟨h.rd, own_weaken h.slots hl, ⟨g, e1, e2, own_weaken h1 hl⟩, ⟨g', e3, own_weaken h2 hl⟩⟩
theorem PCp.low {lo z : Nat} {w : World} {v : PV} {p : PD} (h : PCp lo w v p) (hz : z < lo) : v.apart z := by
  obtain ⟨g, e1, e2, h1⟩ := h.first
  obtain ⟨g', e3, h2⟩ := h.text
  refine ⟨fun x hx => ?_, fun x hx => ?_, fun x hx => ?_⟩
  · have := (own_blk_lt h1 _ rfl).1
    rw [e1] at hx
    injection hx with hx
    subst hx
    have e : (⟨g, 0, none⟩ : Addr).block = g := rfl
    omega
  · have := (own_blk_lt h.slots x hx).1
    omega
  · have := (own_blk_lt h2 _ rfl).1
    rw [e3] at hx
    injection hx with hx
    subst hx
    have e : (⟨g', 0, none⟩ : Addr).block = g' := rfl
    omega
theorem PCp.new {lo : Nat} {w : World} {v : PV} {p : PD} (h : PCp lo w v p) : v.apart w.heap.size := by
  obtain ⟨g, e1, e2, h1⟩ := h.first
  obtain ⟨g', e3, h2⟩ := h.text
  refine ⟨fun x hx => ?_, fun x hx => ?_, fun x hx => ?_⟩
  · have := (own_blk_lt h1 _ rfl).2
    rw [e1] at hx
    injection hx with hx
    subst hx
    exact Nat.ne_of_lt this
  · exact Nat.ne_of_lt (own_blk_lt h.slots x hx).2
  · have := (own_blk_lt h2 _ rfl).2
    rw [e3] at hx
    injection hx with hx
    subst hx
    exact Nat.ne_of_lt this
/-- copied code -/
structure CCp (lo : Nat) (w : World) (A : Option Addr) (n : Nat) (vs : List PV) (ps : List PD) : Prop where
  rd : CRd w A n vs ps
  each : ∀ (i : Nat) (v : PV) (p : PD), vs[i]? = some v → ps[i]? = some p → PCp lo w v p
theorem CCp.below {lo : Nat} {w w' : World} {A : Option Addr} {n : Nat} {vs : List PV} {ps : List PD} (h : CCp lo w A n vs ps) (hb : Below w.heap.size w w') : CCp lo w' A n vs ps :=
  ⟨h.rd.below hb, fun i v p hv hp => (h.each i v p hv hp).below hb⟩
theorem slots_one {l : List SL} : ∀ u ∈ slotsV l, u.oneCell' = true := by
  intro u hu
  obtain ⟨s, _, hs⟩ := List.mem_flatMap.1 hu
  simp only [SL.cs, List.mem_cons, List.not_mem_nil, or_false] at hs
  rcases hs with rfl | rfl | rfl | rfl | rfl | rfl <;> rfl
theorem text_one {l : List IN} : ∀ u ∈ textV l, u.oneCell' = true := by
  intro u hu
  obtain ⟨s, _, hs⟩ := List.mem_flatMap.1 hu
  simp only [IN.cs, List.mem_cons, List.not_mem_nil, or_false] at hs
  rcases hs with rfl | rfl | rfl | rfl <;> rfl
theorem procs_one {l : List PV} : ∀ u ∈ procsV l, u.oneCell' = true := by
  intro u hu
  obtain ⟨s, _, hs⟩ := List.mem_flatMap.1 hu
  simp only [PV.cs, List.mem_cons, List.not_mem_nil, or_false] at hs
  rcases hs with rfl | rfl | rfl | rfl | rfl <;> rfl

theorem rd_take {w : World} {sz n k : Nat} {A : Option Addr} {xs ys : List Value} (h : Rd w sz A (n + k) (xs ++ ys)) (hx : xs.length = n * sz) : Rd w sz A n xs := by
  refine ⟨hx, fun hn => ?_⟩
  obtain ⟨b, o, e, hc⟩ := h.2 (by omega)
  refine ⟨b, o, e, fun j u hu => hc j u ?_⟩
  rw [List.getElem?_append_left (List.getElem?_eq_some_iff.1 hu).1]
  exact hu
/-- one more copied proc -/
theorem copy_next {lo : Nat} {w wr w7 w9 : World} {Ks K8 : List Box} {k n c' c9 gf fn gt5 tn sn sc2 tc5 : Nat} {A' A9 sA2 : Option Addr} {o : Obj} {vk : Int} {vname : ByteArray} {vs' : List PV} {ps : List PD} {p : PD} {v0 : PV} (hvl : vs'.length = k)
    (HE : ∀ (i : Nat) (v : PV) (p : PD), vs'[i]? = some v → ps[i]? = some p → PCp lo wr v p ∧ ∀ x, A' = some x → v.apart x.block) (hlo : lo ≤ wr.heap.size)
    (M8 : Mem wr w7 K8 [⟨50, 4, some ⟨gt5, 0, none⟩, tn + 1, tc5, textV (p.text ++ [markI])⟩, ⟨61, 6, sA2, sn, sc2, slotsV p.slots⟩, ⟨3, 1, some ⟨gf, 0, none⟩, fn + 5, fn + 5, ints (p.first ++ marks fn)⟩]) (hg : (w7.alloc o).grownBy w9 (Value.slice A' k c').ownBlock) (hat : (Value.slice A9 n c9).ownBlock = (Value.slice A' k c').ownBlock ∨ (Value.slice A9 n c9).ownBlock = some (w7.heap.size + 1))
    (HP : ps[k]? = some p ∧ PRd w v0 p ∧ p.first.length = fn ∧ p.slots.length = sn ∧ p.text.length = tn) {m c2 : Nat} {xs : List Value} {e : TypeId} (hk : v0.kind = vk ∧ v0.name = vname)
    (M9 : Mem w w9 Ks [⟨e, 5, A9, m, c2, xs⟩, ⟨50, 4, some ⟨gt5, 0, none⟩, tn + 1, tc5, textV (p.text ++ [markI])⟩, ⟨61, 6, sA2, sn, sc2, slotsV p.slots⟩, ⟨3, 1, some ⟨gf, 0, none⟩, fn + 5, fn + 5, ints (p.first ++ marks fn)⟩]) :
    ∀ (i : Nat) (v : PV) (p : PD), (vs' ++ [(⟨vk, vname, some ⟨gf, 0, none⟩, fn, fn + 5, sA2, sn, sc2, some ⟨gt5, 0, none⟩, tn, tc5⟩ : PV)])[i]? = some v → ps[i]? = some p → PCp lo w9 v p ∧ ∀ x, A9 = some x → v.apart x.block := by
  intro i v p' hv hp'
  have hb := M8.bel
  have hlen : i < (vs' ++ [(⟨vk, vname, some ⟨gf, 0, none⟩, fn, fn + 5, sA2, sn, sc2, some ⟨gt5, 0, none⟩, tn, tc5⟩ : PV)]).length := (List.getElem?_eq_some_iff.1 hv).1
  simp at hlen
  by_cases hi : i < k
  · rw [List.getElem?_append_left (by omega)] at hv
    obtain ⟨h1, h2⟩ := HE i v p' hv hp'
    have h3 := (h1.below hb).below (below_alloc o)
    have hown : ∀ x, (Value.slice A' k c').ownBlock = some x → v.apart x := by
      intro x hx
      cases hA : A' with
      | none => rw [hA] at hx; simp [Value.ownBlock] at hx
      | some a =>
        rw [hA] at hx
        simp [Value.ownBlock] at hx
        subst hx
        exact h2 a hA
    refine ⟨h3.grown hg hown, fun x hx => ?_⟩
    subst hx
    rcases hat with h | h
    · exact hown _ (by rw [← h]; rfl)
    · have : x.block = (w7.alloc o).heap.size := by rw [World.size_alloc]; simpa [Value.ownBlock] using h
      rw [this]
      exact h3.new
  · obtain rfl : i = k := by omega
    rw [List.getElem?_append_right (by omega), hvl, Nat.sub_self] at hv
    simp at hv
    subst hv
    obtain rfl := Option.some.inj (hp'.symm.trans HP.1)
    obtain ⟨_, hr, q1, q2, q3⟩ := HP
    refine ⟨⟨⟨hk.1.symm.trans hr.kind, hk.2.symm.trans hr.name, ?_, M9.rdO 2 rfl, ?_⟩, own_rebase (M9.rowO 2 rfl) (fun x hx => Nat.le_trans hlo (own_blk_lt (M8.rowO 1 rfl) x hx).1), ⟨gf, rfl, rfl, own_rebase (M9.rowO 3 rfl) (fun x hx => Nat.le_trans hlo (own_blk_lt (M8.rowO 2 rfl) x hx).1)⟩, ⟨gt5, rfl, own_rebase (M9.rowO 1 rfl) (fun x hx => Nat.le_trans hlo (own_blk_lt (M8.rowO 0 rfl) x hx).1)⟩⟩, fun x hx => ?_⟩
    · have h := M9.rdO 3 rfl
      rw [show ints (p'.first ++ marks fn) = ints p'.first ++ ints (marks fn) from by simp [ints]] at h
      exact rd_take h (by simp [ints, q1])
    · have h := M9.rdO 1 rfl
      rw [show textV (p'.text ++ [markI]) = textV p'.text ++ textV [markI] from by simp [textV]] at h
      exact rd_take h (by rw [flat_len IN.size, q3])
    · have hd := (List.pairwise_cons.1 M9.disO).1
      exact ⟨fun y hy => Ne.symm (hd ⟨3, 1, some ⟨gf, 0, none⟩, fn + 5, fn + 5, ints (p'.first ++ marks fn)⟩ (by simp) x y hx hy), fun y hy => Ne.symm (hd ⟨61, 6, sA2, sn, sc2, slotsV p'.slots⟩ (by simp) x y hx hy), fun y hy => Ne.symm (hd ⟨50, 4, some ⟨gt5, 0, none⟩, tn + 1, tc5, textV (p'.text ++ [markI])⟩ (by simp) x y hx hy)⟩
theorem rd_blkR {w : World} {g : Nat} {t : TypeId} {cs : Array Value} (h : Blk w g t cs) : Rd w cs.size (some ⟨g, 0, none⟩) 1 cs.toList := by
  refine ⟨by simp, fun _ => ⟨_, _, rfl, fun j x hx => ?_⟩⟩
  rw [h.cell]
  simpa using hx
set_option maxRecDepth 100000 in
set_option maxHeartbeats 12800000 in
theorem copyCode_any (A : Option Addr) (n c : Nat) (vs : List PV) (ps : List PD) (w : World) (hC : CRd w A n vs ps) (hok : ∀ p ∈ ps, p.ok) (hn : n * 96 ≤ 140737488351232) :
    Calls Tryd.prog 6 #[.agg #[.slice A n c]] w fun e w' => ∃ A' c' vs', e = .returned (.agg #[.slice A' n c']) ∧ Below w.heap.size w w' ∧ CCp w.heap.size w' A' n vs' ps := by
  obtain ⟨s0, hs0, hsz0, hsz1, hsz2⟩ := info_parts slot_info
  obtain ⟨t0, ht0, htz0, htz1, htz2⟩ := info_parts instr_info
  obtain ⟨p0, hp0, hpz0, hpz1, hpz2⟩ := info_parts proc_info
  have HC := Lib.hid hC
  have HOK := Lib.hid hok
  clear hC hok
  go_enter Tryd.func6, Tryd.ntmps6
  go_upto_region 1 with fail
  have M0 := Lib.hid ((((Mem.start w).alloc 24 #[.slice A n c]).alloc 24 #[.slice none 0 0]).nilO 43 5)
  simp only [World.size_alloc] at M0
  generalize World.alloc (World.alloc _ _) _ = w1 at M0 ⊢
  generalize hgb : w.heap.size = gb at M0 ⊢
  have HGB := Lib.hid hgb
  clear hgb
  go_wp2
  go_loopw [3, 4] (fun v3 v4 wr => ∃ (k c' : Nat) (A' : Option Addr) (vs' : List PV), k ≤ n ∧ v3 = .slice A' k c' ∧ v4 = .int .i64 k ∧ Hid (Mem w wr [⟨gb + 1, 24, #[.slice none 0 0]⟩, ⟨gb, 24, #[.slice A n c]⟩] [⟨43, 5, A', k, c', procsV vs'⟩]) ∧ Hid (∀ (i : Nat) (v : PV) (p : PD), vs'[i]? = some v → ps[i]? = some p → PCp (gb + 2) wr v p ∧ ∀ x, A' = some x → v.apart x.block)) (fun _ v4 _ => n - (intOf v4).toNat)
  case atStart => exact ⟨0, 0, none, [], Nat.zero_le _, rfl, rfl, M0, Lib.hid (fun i v p h => by simp at h)⟩
  case round =>
    clear M0
    obtain ⟨k, c', A', vs', hk, rfl, rfl, M0, HE⟩ := hrel
    have hvl : Hid (vs'.length = k) := Rd.rec_len PV.size (by omega) (M0.out.rdO 0 rfl)
    have bx := M0.out.cellK 1 rfl
    have x0 : wr.cell? ⟨gb, 0, none⟩ = some (.slice A n c) := bx 0
    by_cases hlt : k < n
    · obtain ⟨b, o, v, p, rfl, hv, hp, hr, hbl, c0, c1, c2, c3, c4⟩ := (HC.out.below M0.out.bel).at hlt
      have hkp := HOK.out p (List.mem_of_getElem? hp)
      have hk0 : (0 : Int) ≤ (k : Int) := by omega
      have hkn : (k : Int) < (n : Int) := by omega
      have q1 := hr.fl
      have q2 := hr.sl
      have q3 := hr.tl
      have m1 : v.fn * 8 ≤ 140737488351232 := by rw [← q1]; exact hkp.2.2.2.2.2.1
      have m2 : v.sn * 56 ≤ 140737488351232 := by rw [← q2]; exact hkp.2.2.2.2.2.2.1
      have m3 : v.tn * 32 ≤ 140737488351232 := by rw [← q3]; exact hkp.2.2.2.2.2.2.2
      have HP := Lib.hid (And.intro hp (And.intro (HC.out.each k v p hv hp) (And.intro q1 (And.intro q2 q3))))
      obtain ⟨vk, vname, fA, fn, fc, sA, sn, sc, tA, tn, tc⟩ := v
      dsimp only at c0 c1 c2 c3 c4 m1 m2 m3
      clear hv hp hr hkp q1 q2 q3
      go_upto_region 6 with fail
      have HLO : Hid (gb + 2 ≤ wr.heap.size) := (M0.out.ltK 0 rfl).2
      have HBW : Hid (∀ w', Below wr.heap.size wr w' → Below w.heap.size w w') := Lib.hid fun w' hb => M0.out.bel.trans (hb.mono M0.out.bel.size)
      have M1 := Lib.hid ((Mem.start wr).alloc 43 #[.int .i64 vk, .string vname, .slice fA fn fc, .slice sA sn sc, .slice tA tn tc])
      clear bx x0 hbl c0 c1 c2 c3 c4
      generalize hgp : wr.heap.size = gp at M1 ⊢
      generalize World.alloc _ _ = w2 at M1 ⊢
      clear hgp
      have bx := M1.out.cellK 0 rfl
      have fx := M1.out.frozenK 0 rfl
      have y2 : w2.cell? ⟨gp, 2, none⟩ = some (.slice fA fn fc) := bx 2
      go_wp2_with fail
      refine (roomy_row fA fn fc p.first M1 (HP.out.2.1.first.below (HBW.out _ M1.out.bel)) m1).mono ?_
      rintro e w3 ⟨gf, rfl, hm3⟩
      dsimp only
      have M3 := Lib.hid (hm3.set (i := 2) (.slice (some ⟨gf, 0, none⟩) fn (fn + 5)))
      have z2 := hm3.cellK 0 rfl 2
      have f2 := hm3.frozenK 0 rfl 2
      clear M1 bx fx y2 hm3
      go_upto_region 7 with fail
      clear z2 f2
      generalize World.setCell _ _ _ = w4 at M3 ⊢
      have y3 : w4.cell? ⟨gp, 3, none⟩ = some (.slice sA sn sc) := M3.out.cellK 0 rfl 3
      have fx := M3.out.frozenK 0 rfl 3
      go_wp2_with (at_builtin; refine wpList_append_rd _ rfl (.const (.slice none 0 0)) (.tmp 23) 40 rfl w4.heap.size 61 s0 _ 6 56 Tryd.underlying40 hs0 hsz0 hsz1 hsz2 rfl (by omega) _ 0 [] rfl (World.ownsRow_nil _ _ _ _) sA sn sc (slotsV p.slots) rfl (HP.out.2.1.slots.below (HBW.out _ M3.out.bel)) slots_one ?_ ?_ ?_ ?_)
      · unfold maxLen; omega
      · omega
      · exact Nat.le_refl _
      · intro v' w5 ho5 hg5 hat5
        obtain ⟨sA2, sc2, rfl, _⟩ := own_shape ho5
        try simp only [Nat.zero_add, List.nil_append] at ho5
        have hm5 := M3.out.made (Grow.below hg5 (Nat.le_refl _) (fun g h => by simp [Value.ownBlock] at h)) ho5
        have z3 := hm5.cellK 0 rfl 3
        have f3 := hm5.frozenK 0 rfl 3
        have M5 := Lib.hid (hm5.set (i := 3) (.slice sA2 sn sc2))
        clear M3 y3 fx ho5 hg5 hat5 hm5
        try simp only [Nat.zero_add]
        go_upto_region 8 with fail
        clear z3 f3
        generalize World.setCell _ _ _ = w6 at M5 ⊢
        have M6 := Lib.hid M5.out.drew
        have hq6 := M6.out.cellK 0 rfl 4
        clear M5
        -- HELD
        refine wp_region_L (S := SH 11 (fun w => True) (fun w => w.cell? ⟨gp, 4, none⟩ = some (.slice tA tn tc))) (by kernel_rfl) ?_
        refine wpAnyL_take (i := 0) (m := 11) (SI := (fun _ => True)) (v := ?_) rfl (by kernel_rfl) (by kernel_rfl) (by kernel_rfl) (by kernel_rfl) (by rfl) (by decide) (fun _ _ => SH.x (by decide)) (fun _ _ _ _ => trivial) (fun _ _ _ h => h) (Or.inl ⟨by rfl, ?_⟩) (SH.y (trivial) (hq6)) ?_
        rotate_left
        · intro w hSw
          (try dsimp only at hSw)
          (try obtain ⟨hS1, hS2⟩ := hSw)
          go_simp
          try with_reducible rfl
        try simp only [Act.put, List.getElem_toArray, List.getElem_cons_zero, List.setIfInBounds_toArray, List.set_cons_zero, List.set_cons_succ]
        refine wpAnyL_take (i := 1) (m := 11) (SI := (fun w => (True) ∧ (w.cell? ⟨gp, 4, none⟩ = some (.slice tA tn tc)))) (v := ?_) rfl (by kernel_rfl) (by kernel_rfl) (by kernel_rfl) (by kernel_rfl) (by rfl) (by decide) (fun _ _ => SH.x (by decide)) (fun _ _ h0 h => ⟨h.1, h.2 h0⟩) (fun _ _ _ h => h) (Or.inl ⟨by rfl, ?_⟩) (SH.y (trivial) (hq6)) ?_
        rotate_left
        · intro w hSw
          (try dsimp only at hSw)
          (try obtain ⟨hS1, hS2⟩ := hSw)
          go_simp
          try with_reducible rfl
        try simp only [Act.put, List.getElem_toArray, List.getElem_cons_zero, List.getElem_cons_succ, List.setIfInBounds_toArray, List.set_cons_zero, List.set_cons_succ]
        refine wpAnyL_take (i := 3) (m := 11) (SI := (fun _ => True)) (v := ?_) rfl (by kernel_rfl) (by kernel_rfl) (by kernel_rfl) (by kernel_rfl) (by rfl) (by decide) (fun _ _ => SH.x (by decide)) (fun _ _ _ _ => trivial) (fun _ _ _ h => h) (Or.inl ⟨by rfl, ?_⟩) (SH.y (trivial) (hq6)) ?_
        rotate_left
        · intro w hSw
          (try dsimp only at hSw)
          (try obtain ⟨hS1, hS2⟩ := hSw)
          go_simp
          try with_reducible rfl
        try simp only [Act.put, List.getElem_toArray, List.getElem_cons_zero, List.getElem_cons_succ, List.setIfInBounds_toArray, List.set_cons_zero, List.set_cons_succ]
        refine wpAnyL_take (i := 6) (m := 11) (SI := (fun _ => True)) (v := ?_) rfl (by kernel_rfl) (by kernel_rfl) (by kernel_rfl) (by kernel_rfl) (by rfl) (by decide) (fun _ _ => SH.x (by decide)) (fun _ _ _ _ => trivial) (fun _ _ _ h => h) (Or.inl ⟨by rfl, ?_⟩) (SH.y (trivial) (hq6)) ?_
        rotate_left
        · intro w hSw
          (try dsimp only at hSw)
          (try obtain ⟨hS1, hS2⟩ := hSw)
          go_simp
          try with_reducible rfl
        try simp only [Act.put, List.getElem_toArray, List.getElem_cons_zero, List.getElem_cons_succ, List.setIfInBounds_toArray, List.set_cons_zero, List.set_cons_succ]
        refine wpAnyL_take (i := 7) (m := 11) (SI := (fun w => (True) ∧ (w.cell? ⟨gp, 4, none⟩ = some (.slice tA tn tc)))) (v := ?_) rfl (by kernel_rfl) (by kernel_rfl) (by kernel_rfl) (by kernel_rfl) (by rfl) (by decide) (fun _ _ => SH.x (by decide)) (fun _ _ h0 h => ⟨h.1, h.2 h0⟩) (fun _ _ _ h => h) (Or.inl ⟨by rfl, ?_⟩) (SH.y (trivial) (hq6)) ?_
        rotate_left
        · intro w hSw
          (try dsimp only at hSw)
          (try obtain ⟨hS1, hS2⟩ := hSw)
          go_simp
          try with_reducible rfl
        try simp only [Act.put, List.getElem_toArray, List.getElem_cons_zero, List.getElem_cons_succ, List.setIfInBounds_toArray, List.set_cons_zero, List.set_cons_succ]
        refine wpAnyL_take (i := 8) (m := 11) (SI := (fun _ => True)) (v := ?_) rfl (by kernel_rfl) (by kernel_rfl) (by kernel_rfl) (by kernel_rfl) (by rfl) (by decide) (fun _ _ => SH.x (by decide)) (fun _ _ _ _ => trivial) (fun _ _ _ h => h) (Or.inl ⟨by rfl, ?_⟩) (SH.y (trivial) (hq6)) ?_
        rotate_left
        · intro w hSw
          (try dsimp only at hSw)
          (try obtain ⟨hS1, hS2⟩ := hSw)
          go_simp
          try with_reducible rfl
        try simp only [Act.put, List.getElem_toArray, List.getElem_cons_zero, List.getElem_cons_succ, List.setIfInBounds_toArray, List.set_cons_zero, List.set_cons_succ]
        refine wpAnyL_ready (rs := [2, 4]) (by kernel_rfl) (by simp) ?_
        refine AllL.cons rfl (by rfl) (fun K hK => ?_) (AllL.cons rfl (by rfl) (fun K hK => ?_) AllL.nil)
        · have HKK := Lib.hid hK
          clear hK
          refine wp_append_sl _ (.const (.slice none 0 0)) (.tmp 27) 41 rfl (World.heap _).size 50 t0 _ 4 32 Tryd.underlying41 ht0 htz0 htz1 htz2 rfl (by omega) (.slice none 0 0) 0 [] rfl (World.ownsRow_nil _ _ _ _) tA tn tc (textV p.text) rfl (HP.out.2.1.text.below (HBW.out _ M6.out.bel)) text_one (by unfold maxLen; omega) (by omega) (Nat.le_refl _) tn (Nat.zero_add _) ?_
          intro tA2 tc2 wN1 ho hg hat
          try simp only [List.nil_append] at ho
          have N1 := Lib.hid (M6.out.made (Grow.below hg (Nat.le_refl _) (fun g h => by simp [Value.ownBlock] at h)) ho)
          clear ho hg hat
          refine HKK.out _ _ (SH.y (trivial) (N1.out.cellK 0 rfl 4)) ?_
          clear HKK K
          try simp only [Act.put, List.getElem_toArray, List.getElem_cons_zero, List.getElem_cons_succ, List.setIfInBounds_toArray, List.set_cons_zero, List.set_cons_succ]
          refine wpAnyL_ready (rs := [4]) (by kernel_rfl) (by simp) ?_
          refine AllL.cons rfl (by rfl) (fun K hK => ?_) AllL.nil
          have HKK := Lib.hid hK
          clear hK
          go_simp
          have N2 := Lib.hid (N1.out.alloc 50 #[.int .i64 0, .int .i64 (-9), .int .i64 0, .int .i64 0])
          try simp only [World.size_alloc] at N2
          refine HKK.out _ _ (SH.y (trivial) (N2.out.cellK 1 rfl 4)) ?_
          clear HKK K
          try simp only [Act.put, List.getElem_toArray, List.getElem_cons_zero, List.getElem_cons_succ, List.setIfInBounds_toArray, List.set_cons_zero, List.set_cons_succ]
          refine wpAnyL_ready (rs := [5]) (by kernel_rfl) (by simp) ?_
          refine AllL.cons rfl (by rfl) (fun K hK => ?_) AllL.nil
          have HKK := Lib.hid hK
          clear hK
          refine wp_append_sl _ (.tmp 28) (.tmp 30) 41 rfl wr.heap.size 50 t0 _ 4 32 Tryd.underlying41 ht0 htz0 htz1 htz2 rfl (by omega) (.slice tA2 tn tc2) tn (textV p.text) rfl (N2.out.rowO 0 rfl) _ 1 1 [.int .i64 0, .int .i64 (-9), .int .i64 0, .int .i64 0] rfl (rd_blkR (N2.out.blkK 0 rfl)) (by simp [Value.oneCell']) (by unfold maxLen; omega) (by omega) N2.out.base (tn + 1) rfl ?_
          intro tA5 tc5 wN5 ho hg hat
          have hto : textV p.text ++ [.int .i64 0, .int .i64 (-9), .int .i64 0, .int .i64 0] = textV (p.text ++ [markI]) := by simp [textV, IN.cs, markI]
          rw [hto] at ho
          have hc5 := own_cap ho
          obtain ⟨gt5, rfl, hlo5, hlt5⟩ := own_head ho (by omega)
          have N3 := Lib.hid (N2.out.grow hg ho hat)
          clear ho hg hat hto
          have hc51 : (tn : Int) ≤ (tc5 : Int) := by omega
          refine HKK.out _ _ (SH.y (trivial) (N3.out.cellK 1 rfl 4)) ?_
          clear HKK K
          try simp only [Act.put, List.getElem_toArray, List.getElem_cons_zero, List.getElem_cons_succ, List.setIfInBounds_toArray, List.set_cons_zero, List.set_cons_succ]
          refine wpAnyL_take (i := 9) (m := 11) (SI := (fun _ => True)) (v := ?_) rfl (by kernel_rfl) (by kernel_rfl) (by kernel_rfl) (by kernel_rfl) (by rfl) (by decide) (fun _ _ => SH.x (by decide)) (fun _ _ _ _ => trivial) (fun _ _ _ h => h) (Or.inl ⟨by rfl, ?_⟩) (SH.y (trivial) (N3.out.cellK 1 rfl 4)) ?_
          rotate_left
          · intro w hSw
            (try dsimp only at hSw)
            (try obtain ⟨hS1, hS2⟩ := hSw)
            go_simp
            try with_reducible rfl
          try simp only [Act.put, List.getElem_toArray, List.getElem_cons_zero, List.getElem_cons_succ, List.setIfInBounds_toArray, List.set_cons_zero, List.set_cons_succ]
          refine wpAnyL_take (i := 10) (m := 11) (SI := (fun _ => True)) (v := ?_) rfl (by kernel_rfl) (by kernel_rfl) (by kernel_rfl) (by kernel_rfl) (by rfl) (by decide) (fun _ _ => SH.x (by decide)) (fun _ _ _ _ => trivial) (fun _ _ _ h => h) (Or.inl ⟨by rfl, ?_⟩) (SH.y (trivial) (N3.out.cellK 1 rfl 4)) ?_
          rotate_left
          · intro w hSw
            (try dsimp only at hSw)
            (try obtain ⟨hS1, hS2⟩ := hSw)
            go_simp
            try with_reducible rfl
          try simp only [Act.put, List.getElem_toArray, List.getElem_cons_zero, List.getElem_cons_succ, List.setIfInBounds_toArray, List.set_cons_zero, List.set_cons_succ]
          refine wpAnyL_ready (rs := [11]) (by kernel_rfl) (by simp) ?_
          refine AllL.cons rfl (by rfl) (fun K hK => ?_) AllL.nil
          have HKK := Lib.hid hK
          clear hK
          have bz := N3.out.cellK 1 rfl 4
          have fz := N3.out.frozenK 1 rfl 4
          go_simp
          have N4 := Lib.hid ((N3.out.upK 1 rfl).set (i := 4) (.slice (some ⟨gt5, 0, none⟩) tn tc5))
          clear bz fz
          refine HKK.out _ _ (SH.z (trivial) (by rfl)) ?_
          clear HKK K
          try simp only [Act.put, List.getElem_toArray, List.getElem_cons_zero, List.getElem_cons_succ, List.setIfInBounds_toArray, List.set_cons_zero, List.set_cons_succ]
          refine wpAnyL_done (by kernel_rfl) ?_ _
          have M8 := Lib.hid (N4.out.delK 1)
          clear N1 N2 N3 N4
          have hb8 : Below wr.heap.size wr _ := M8.out.bel
          go_upto_region 9 with fail
          generalize World.setCell _ _ _ = w7 at M8 ⊢
          have bz := M8.out.cellK 0 rfl
          have MJ := Lib.hid (M0.out.join M8.out)
          have z0 : w7.cell? ⟨gp, 0, none⟩ = some (.int .i64 vk) := bz 0
          have z1 : w7.cell? ⟨gp, 1, none⟩ = some (.string vname) := bz 1
          have z2 : w7.cell? ⟨gp, 2, none⟩ = some (.slice (some ⟨gf, 0, none⟩) fn (fn + 5)) := bz 2
          have z3 : w7.cell? ⟨gp, 3, none⟩ = some (.slice sA2 sn sc2) := bz 3
          have z4 : w7.cell? ⟨gp, 4, none⟩ = some (.slice (some ⟨gt5, 0, none⟩) tn tc5) := bz 4
          clear bz
          go_wp2_with (at_builtin; refine wpList_append_rd _ rfl (.tmp 37) (.tmp 39) 22 rfl w.heap.size 43 p0 _ 5 96 Tryd.underlying22 hp0 hpz0 hpz1 hpz2 rfl (by omega) (.slice A' k c') k (procsV vs') rfl ((MJ.out.rowO 3 rfl).alloc _) _ 1 1 [.int .i64 vk, .string vname, .slice (some ⟨gf, 0, none⟩) fn (fn + 5), .slice sA2 sn sc2, .slice (some ⟨gt5, 0, none⟩) tn tc5] rfl (rd_newR _ _ _) ?_ ?_ ?_ ?_ ?_)
          · simp [Value.oneCell']
          · unfold maxLen; omega
          · omega
          · have := MJ.out.base
            simp only [World.size_alloc]
            omega
          · intro v9 w9 ho9 hg9 hat9
            obtain ⟨A9, c9, rfl, _⟩ := own_shape ho9
            have e9 : procsV vs' ++ [.int .i64 vk, .string vname, .slice (some ⟨gf, 0, none⟩) fn (fn + 5), .slice sA2 sn sc2, .slice (some ⟨gt5, 0, none⟩) tn tc5] = procsV (vs' ++ [⟨vk, vname, some ⟨gf, 0, none⟩, fn, fn + 5, sA2, sn, sc2, some ⟨gt5, 0, none⟩, tn, tc5⟩]) := by simp [procsV, PV.cs]
            rw [e9] at ho9
            have M9 := Lib.hid ((MJ.out.upO 3 rfl).appd hg9 ho9 hat9)
            have HE9 := Lib.hid (copy_next hvl.out HE.out HLO.out M8.out hg9 hat9 HP.out ⟨rfl, rfl⟩ M9.out)
            have M10 : Hid (Mem w w9 [⟨gb + 1, 24, #[.slice none 0 0]⟩, ⟨gb, 24, #[.slice (some ⟨b, o, none⟩) n c]⟩] [⟨43, 5, A9, k + 1, c9, procsV (vs' ++ [⟨vk, vname, some ⟨gf, 0, none⟩, fn, fn + 5, sA2, sn, sc2, some ⟨gt5, 0, none⟩, tn, tc5⟩])⟩]) := Lib.hid (((M9.out.delO 1).delO 1).delO 1)
            clear M9 MJ M8 HE M0 ho9 hg9 hat9 e9 z0 z1 z2 z3 z4 hb8
            go_wp2
            go_roundw
            case rel => exact ⟨k + 1, c9, A9, _, by omega, rfl, by go_num, M10, HE9⟩
            case measure => simp [intOf]; omega
        · have HKK := Lib.hid hK
          clear hK
          go_simp
          have N1 := Lib.hid (M6.out.alloc 50 #[.int .i64 0, .int .i64 (-9), .int .i64 0, .int .i64 0])
          try simp only [World.size_alloc] at N1
          refine HKK.out _ _ (SH.y (trivial) (N1.out.cellK 1 rfl 4)) ?_
          clear HKK K
          try simp only [Act.put, List.getElem_toArray, List.getElem_cons_zero, List.getElem_cons_succ, List.setIfInBounds_toArray, List.set_cons_zero, List.set_cons_succ]
          refine wpAnyL_ready (rs := [2]) (by kernel_rfl) (by simp) ?_
          refine AllL.cons rfl (by rfl) (fun K hK => ?_) AllL.nil
          have HKK := Lib.hid hK
          clear hK
          refine wp_append_sl _ (.const (.slice none 0 0)) (.tmp 27) 41 rfl (World.heap _).size 50 t0 _ 4 32 Tryd.underlying41 ht0 htz0 htz1 htz2 rfl (by omega) (.slice none 0 0) 0 [] rfl (World.ownsRow_nil _ _ _ _) tA tn tc (textV p.text) rfl (HP.out.2.1.text.below (HBW.out _ N1.out.bel)) text_one (by unfold maxLen; omega) (by omega) (Nat.le_refl _) tn (Nat.zero_add _) ?_
          intro tA2 tc2 wN2 ho hg hat
          try simp only [List.nil_append] at ho
          have N2 := Lib.hid (N1.out.made (Grow.below hg (Nat.le_refl _) (fun g h => by simp [Value.ownBlock] at h)) ho)
          clear ho hg hat
          refine HKK.out _ _ (SH.y (trivial) (N2.out.cellK 1 rfl 4)) ?_
          clear HKK K
          try simp only [Act.put, List.getElem_toArray, List.getElem_cons_zero, List.getElem_cons_succ, List.setIfInBounds_toArray, List.set_cons_zero, List.set_cons_succ]
          refine wpAnyL_ready (rs := [5]) (by kernel_rfl) (by simp) ?_
          refine AllL.cons rfl (by rfl) (fun K hK => ?_) AllL.nil
          have HKK := Lib.hid hK
          clear hK
          refine wp_append_sl _ (.tmp 28) (.tmp 30) 41 rfl wr.heap.size 50 t0 _ 4 32 Tryd.underlying41 ht0 htz0 htz1 htz2 rfl (by omega) (.slice tA2 tn tc2) tn (textV p.text) rfl (N2.out.rowO 0 rfl) _ 1 1 [.int .i64 0, .int .i64 (-9), .int .i64 0, .int .i64 0] rfl (rd_blkR (N2.out.blkK 0 rfl)) (by simp [Value.oneCell']) (by unfold maxLen; omega) (by omega) N2.out.base (tn + 1) rfl ?_
          intro tA5 tc5 wN5 ho hg hat
          have hto : textV p.text ++ [.int .i64 0, .int .i64 (-9), .int .i64 0, .int .i64 0] = textV (p.text ++ [markI]) := by simp [textV, IN.cs, markI]
          rw [hto] at ho
          have hc5 := own_cap ho
          obtain ⟨gt5, rfl, hlo5, hlt5⟩ := own_head ho (by omega)
          have N3 := Lib.hid (N2.out.grow hg ho hat)
          clear ho hg hat hto
          have hc51 : (tn : Int) ≤ (tc5 : Int) := by omega
          refine HKK.out _ _ (SH.y (trivial) (N3.out.cellK 1 rfl 4)) ?_
          clear HKK K
          try simp only [Act.put, List.getElem_toArray, List.getElem_cons_zero, List.getElem_cons_succ, List.setIfInBounds_toArray, List.set_cons_zero, List.set_cons_succ]
          refine wpAnyL_take (i := 9) (m := 11) (SI := (fun _ => True)) (v := ?_) rfl (by kernel_rfl) (by kernel_rfl) (by kernel_rfl) (by kernel_rfl) (by rfl) (by decide) (fun _ _ => SH.x (by decide)) (fun _ _ _ _ => trivial) (fun _ _ _ h => h) (Or.inl ⟨by rfl, ?_⟩) (SH.y (trivial) (N3.out.cellK 1 rfl 4)) ?_
          rotate_left
          · intro w hSw
            (try dsimp only at hSw)
            (try obtain ⟨hS1, hS2⟩ := hSw)
            go_simp
            try with_reducible rfl
          try simp only [Act.put, List.getElem_toArray, List.getElem_cons_zero, List.getElem_cons_succ, List.setIfInBounds_toArray, List.set_cons_zero, List.set_cons_succ]
          refine wpAnyL_take (i := 10) (m := 11) (SI := (fun _ => True)) (v := ?_) rfl (by kernel_rfl) (by kernel_rfl) (by kernel_rfl) (by kernel_rfl) (by rfl) (by decide) (fun _ _ => SH.x (by decide)) (fun _ _ _ _ => trivial) (fun _ _ _ h => h) (Or.inl ⟨by rfl, ?_⟩) (SH.y (trivial) (N3.out.cellK 1 rfl 4)) ?_
          rotate_left
          · intro w hSw
            (try dsimp only at hSw)
            (try obtain ⟨hS1, hS2⟩ := hSw)
            go_simp
            try with_reducible rfl
          try simp only [Act.put, List.getElem_toArray, List.getElem_cons_zero, List.getElem_cons_succ, List.setIfInBounds_toArray, List.set_cons_zero, List.set_cons_succ]
          refine wpAnyL_ready (rs := [11]) (by kernel_rfl) (by simp) ?_
          refine AllL.cons rfl (by rfl) (fun K hK => ?_) AllL.nil
          have HKK := Lib.hid hK
          clear hK
          have bz := N3.out.cellK 1 rfl 4
          have fz := N3.out.frozenK 1 rfl 4
          go_simp
          have N4 := Lib.hid ((N3.out.upK 1 rfl).set (i := 4) (.slice (some ⟨gt5, 0, none⟩) tn tc5))
          clear bz fz
          refine HKK.out _ _ (SH.z (trivial) (by rfl)) ?_
          clear HKK K
          try simp only [Act.put, List.getElem_toArray, List.getElem_cons_zero, List.getElem_cons_succ, List.setIfInBounds_toArray, List.set_cons_zero, List.set_cons_succ]
          refine wpAnyL_done (by kernel_rfl) ?_ _
          have M8 := Lib.hid (N4.out.delK 1)
          clear N1 N2 N3 N4
          have hb8 : Below wr.heap.size wr _ := M8.out.bel
          go_upto_region 9 with fail
          generalize World.setCell _ _ _ = w7 at M8 ⊢
          have bz := M8.out.cellK 0 rfl
          have MJ := Lib.hid (M0.out.join M8.out)
          have z0 : w7.cell? ⟨gp, 0, none⟩ = some (.int .i64 vk) := bz 0
          have z1 : w7.cell? ⟨gp, 1, none⟩ = some (.string vname) := bz 1
          have z2 : w7.cell? ⟨gp, 2, none⟩ = some (.slice (some ⟨gf, 0, none⟩) fn (fn + 5)) := bz 2
          have z3 : w7.cell? ⟨gp, 3, none⟩ = some (.slice sA2 sn sc2) := bz 3
          have z4 : w7.cell? ⟨gp, 4, none⟩ = some (.slice (some ⟨gt5, 0, none⟩) tn tc5) := bz 4
          clear bz
          go_wp2_with (at_builtin; refine wpList_append_rd _ rfl (.tmp 37) (.tmp 39) 22 rfl w.heap.size 43 p0 _ 5 96 Tryd.underlying22 hp0 hpz0 hpz1 hpz2 rfl (by omega) (.slice A' k c') k (procsV vs') rfl ((MJ.out.rowO 3 rfl).alloc _) _ 1 1 [.int .i64 vk, .string vname, .slice (some ⟨gf, 0, none⟩) fn (fn + 5), .slice sA2 sn sc2, .slice (some ⟨gt5, 0, none⟩) tn tc5] rfl (rd_newR _ _ _) ?_ ?_ ?_ ?_ ?_)
          · simp [Value.oneCell']
          · unfold maxLen; omega
          · omega
          · have := MJ.out.base
            simp only [World.size_alloc]
            omega
          · intro v9 w9 ho9 hg9 hat9
            obtain ⟨A9, c9, rfl, _⟩ := own_shape ho9
            have e9 : procsV vs' ++ [.int .i64 vk, .string vname, .slice (some ⟨gf, 0, none⟩) fn (fn + 5), .slice sA2 sn sc2, .slice (some ⟨gt5, 0, none⟩) tn tc5] = procsV (vs' ++ [⟨vk, vname, some ⟨gf, 0, none⟩, fn, fn + 5, sA2, sn, sc2, some ⟨gt5, 0, none⟩, tn, tc5⟩]) := by simp [procsV, PV.cs]
            rw [e9] at ho9
            have M9 := Lib.hid ((MJ.out.upO 3 rfl).appd hg9 ho9 hat9)
            have HE9 := Lib.hid (copy_next hvl.out HE.out HLO.out M8.out hg9 hat9 HP.out ⟨rfl, rfl⟩ M9.out)
            have M10 : Hid (Mem w w9 [⟨gb + 1, 24, #[.slice none 0 0]⟩, ⟨gb, 24, #[.slice (some ⟨b, o, none⟩) n c]⟩] [⟨43, 5, A9, k + 1, c9, procsV (vs' ++ [⟨vk, vname, some ⟨gf, 0, none⟩, fn, fn + 5, sA2, sn, sc2, some ⟨gt5, 0, none⟩, tn, tc5⟩])⟩]) := Lib.hid (((M9.out.delO 1).delO 1).delO 1)
            clear M9 MJ M8 HE M0 ho9 hg9 hat9 e9 z0 z1 z2 z3 z4 hb8
            go_wp2
            go_roundw
            case rel => exact ⟨k + 1, c9, A9, _, by omega, rfl, by go_num, M10, HE9⟩
            case measure => simp [intOf]; omega
        -- DLEH
    · have hk1 : ¬ (k : Int) < (n : Int) := by omega
      obtain rfl : k = n := by omega
      have by0 := M0.out.cellK 0 rfl 0
      have fy0 := M0.out.frozenK 0 rfl 0
      have MS := Lib.hid (M0.out.set (i := 0) (.slice A' k c'))
      have HEN : Hid (CCp w.heap.size (wr.setCell ⟨gb + 1, 0, none⟩ (.slice A' k c')) A' k vs' ps) := by
        have hg : wr.grownBy (wr.setCell ⟨gb + 1, 0, none⟩ (.slice A' k c')) (some (gb + 1)) := ⟨rfl, rfl, rfl, by simp [World.setCell], fun q _ hne => Below.heap_setCell wr ⟨gb + 1, 0, none⟩ _ q (fun e => hne (by rw [e]))⟩
        have hE2 : ∀ (i : Nat) (v : PV) (p : PD), vs'[i]? = some v → ps[i]? = some p → PCp w.heap.size (wr.setCell ⟨gb + 1, 0, none⟩ (.slice A' k c')) v p := fun i v p hv hp =>
          ((HE.out i v p hv hp).1.grown hg (fun x hx => by injection hx with hx; subst hx; exact (HE.out i v p hv hp).1.low (by omega))).weaken (by rw [HGB.out]; omega)
        exact ⟨⟨MS.out.rdO 0 rfl, HC.out.len, fun i v p hv hp => (hE2 i v p hv hp).rd⟩, hE2⟩
      have MB := Lib.hid MS.out.bel
      clear M0 bx
      go_wp2
      refine bodyPost_ret (v := .agg #[.slice A' k c']) ?_ rfl ?_
      · simp [results, Tryd.results6, go_sem, MS.out.cellK 0 rfl 0]
      · exact ⟨A', ⟨c', rfl⟩, MB.out, vs', HEN.out⟩
end Go.Proofs.YtiogcbckhaknmaaDoor.Cod
