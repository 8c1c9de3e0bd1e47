/-
  The walk of the law ChangeCarry. Conditions: the arguments read, within the form's own reach.
-/
import Derived.Test.YtnalabohhocjaaaChgA
import Derived.Test.YtnalabohhocjaaaChgB
import Derived.Test.YtnalabohhocjaaaCod4
import Derived.Deep.RegionHeld3
import Derived.Deep.DeepCutAuto
namespace Go.Proofs.Ytnalabohhocjaaa.Chg
open Go.RowKit Go.Proofs.Ytnalabohhocjaaa.W Go.Proofs.Ytnalabohhocjaaa.Ints Go.Proofs.Ytnalabohhocjaaa.Cod

theorem carryF_len {ol : List SL} {frame : List Int} (ho : ∀ t ∈ ol, slotB frame.length t = true) : ∀ (nl : List SL) (F : List Int), (∀ s ∈ nl, slotB F.length s = true) → (carryF ol frame F nl).length = F.length
  | [], F, _ => rfl
  | s :: nl, F, h => by
    have h1 := carry_len (h s (by simp)) ho
    have h2 := carryF_len ho nl (carry1 ol frame F s) (fun t ht => by rw [h1]; exact h t (by simp [ht]))
    exact h2.trans h1
theorem carr_parts {p : PD} (h : carrB p = true) : p.first.length ≤ 20000 ∧ p.slots.length ≤ 20000 ∧ ∀ s ∈ p.slots, slotB p.first.length s = true := by
  simp only [carrB, Bool.and_eq_true, decide_eq_true_eq, List.all_eq_true] at h
  exact ⟨h.1.1, h.1.2, h.2⟩
theorem carried_len (po pn : PD) (frame : List Int) : (carriedF po frame pn).frame.length ≤ 20000 ∧ (carriedF po frame pn).lost.length ≤ 20000 ∧ (carriedF po frame pn).fresh.length ≤ 20000 := by
  unfold carriedF
  split
  · simp
  · split
    · simp
    · split
      · simp
      · rename_i h1 h2 h3
        obtain ⟨p1, p2, p3⟩ := carr_parts (p := po) (by simpa using h1)
        obtain ⟨q1, q2, q3⟩ := carr_parts (p := pn) (by simpa using h3)
        have h2' : frame.length = po.first.length := by omega
        refine ⟨?_, Nat.le_trans (strange_len _ _) p2, Nat.le_trans (strange_len _ _) q2⟩
        show (carryF _ _ _ _).length ≤ _
        rw [carryF_len (by rw [h2']; exact p3) _ _ q3]
        exact q1
theorem rd_rows {w : World} {g : Nat} {t : TypeId} {cs : Array Value} {sz n : Nat} (h : Blk w g t cs) (hs : cs.size = n * sz) : Rd w sz (some ⟨g, 0, none⟩) n cs.toList := by
  refine ⟨by simpa using hs, fun _ => ⟨_, _, rfl, fun j x hx => ?_⟩⟩
  rw [h.cell]
  simpa using hx
theorem code_two {w : World} {g : Nat} {t : TypeId} {v u : PV} {po pn : PD} (h : Blk w g t (v.cs ++ u.cs).toArray) (hv : PRd w v po) (hu : PRd w u pn) : CRd w (some ⟨g, 0, none⟩) 2 [v, u] [po, pn] := by
  refine ⟨?_, rfl, fun i a p ha hp => ?_⟩
  · have := rd_rows (sz := 5) (n := 2) h (by simp [PV.cs])
    simpa [procsV] using this
  · match i, ha, hp with
    | 0, ha, hp =>
      simp at ha hp
      subst ha hp
      exact hv
    | 1, ha, hp =>
      simp at ha hp
      subst ha hp
      exact hu
    | k + 2, ha, hp => simp at ha
theorem own_pre {w : World} {base : Nat} {e : TypeId} {A : Option Addr} {n k c : Nat} {xs : List Value} (h : w.ownsRow base e 1 (.slice A (n + k) c) (n + k) xs) : w.ownsRow base e 1 (.slice A n c) n (xs.take n) := by
  refine ⟨by have := h.1; simp at this ⊢; omega, ?_⟩
  rcases h.2 with ⟨h1, h0⟩ | ⟨g, cap, cur, hv, hb, hg, hnc, hcm, hs, ht⟩
  · injection h1 with e1 e2 e3
    left
    subst e1 e3
    exact ⟨by rw [show n = 0 by omega], by omega⟩
  · injection hv with e1 e2 e3
    subst e1 e3
    exact .inr ⟨g, _, cur, rfl, hb, hg, by omega, hcm, hs, by rw [← ht, List.take_take]; congr 1; omega⟩

set_option maxRecDepth 100000 in
set_option maxHeartbeats 12800000 in
theorem carry_law (v u : PV) (po pn : PD) (A : Option Addr) (n c : Nat) (frame : List Int) (w : World) (hv : PRd w v po) (hu : PRd w u pn) (hov : po.ok) (hou : pn.ok) (hr : Rd w 1 A n (ints frame)) (hn : n * 8 ≤ 140737488351232) :
    Calls Try.prog 3 #[v.val, .slice A n c, u.val] w fun e w' => e = .returned (.bool true) ∧ Below w.heap.size w w' := by
  obtain ⟨i0, hi0, hz0, hz1, hz2⟩ := info_parts int_info
  have hlen := carried_len po pn frame
  have HK1 : Hid (∀ w', PRd w' v po → PRd w' u pn → Rd w' 1 A n (ints frame) → Calls Try.prog 4 #[v.val, .slice A n c, u.val] w' fun e w'' => CarR w' w'' e (carriedF po frame pn)) :=
    Lib.hid fun w' h1 h2 h3 => Carried_any v u po pn A n c frame w' h1 h2 hov hou h3
  have HK2 : Hid (∀ w' (v' u' : PV) A' c', PRd w' v' po → PRd w' u' pn → Rd w' 1 A' n (ints frame) → n ≤ c' → Calls Try.prog 6 #[v'.val, .slice A' n c', u'.val] w' fun e w'' => CarR w' w'' e (carriedF po frame pn)) :=
    Lib.hid fun w' v' u' A' c' h1 h2 h3 h4 => Carry_any v' u' po pn A' n c' frame w' h1 h2 hov hou h3 h4
  generalize carriedF po frame pn = R at hlen HK1 HK2
  obtain ⟨r1, r2, r3⟩ := hlen
  have HV := Lib.hid (And.intro hv hu)
  have HO : Hid (∀ p ∈ [po, pn], p.ok) := Lib.hid (by simp; exact ⟨hov, hou⟩)
  have HR := Lib.hid hr
  clear hv hu hov hou hr
  obtain ⟨vk, vname, fA, fn, fc, sA, sn, sc, tA, tn, tc⟩ := v
  obtain ⟨uk, uname, gA, gn, gc, hA, hn', hc, iA, inn, ic⟩ := u
  go_enter Try.func3, Try.ntmps3
  go_upto_region 1 with fail
  have M0 := Lib.hid (((Mem.start w).alloc 27 #[.int .i64 vk, .string vname, .slice fA fn fc, .slice sA sn sc, .slice tA tn tc]).alloc 27 #[.int .i64 uk, .string uname, .slice gA gn gc, .slice hA hn' hc, .slice iA inn ic])
  simp only [World.size_alloc] at M0
  generalize World.alloc (World.alloc _ _) _ = w1 at M0 ⊢
  generalize w.heap.size = gb at M0 ⊢
  have px := M0.out.cellK 1 rfl
  have qx := M0.out.cellK 0 rfl
  have p0 : w1.cell? ⟨gb, 0, none⟩ = some (.int .i64 vk) := px 0
  have p1 : w1.cell? ⟨gb, 1, none⟩ = some (.string vname) := px 1
  have p2 : w1.cell? ⟨gb, 2, none⟩ = some (.slice fA fn fc) := px 2
  have p3 : w1.cell? ⟨gb, 3, none⟩ = some (.slice sA sn sc) := px 3
  have p4 : w1.cell? ⟨gb, 4, none⟩ = some (.slice tA tn tc) := px 4
  have q0 : w1.cell? ⟨gb + 1, 0, none⟩ = some (.int .i64 uk) := qx 0
  have q1 : w1.cell? ⟨gb + 1, 1, none⟩ = some (.string uname) := qx 1
  have q2 : w1.cell? ⟨gb + 1, 2, none⟩ = some (.slice gA gn gc) := qx 2
  have q3 : w1.cell? ⟨gb + 1, 3, none⟩ = some (.slice hA hn' hc) := qx 3
  have q4 : w1.cell? ⟨gb + 1, 4, none⟩ = some (.slice iA inn ic) := qx 4
  clear px qx
  go_wp2_with fail
  refine (HK1.out w1 (HV.out.1.below M0.out.bel) (HV.out.2.below M0.out.bel) (HR.out.below M0.out.bel)).mono ?_
  rintro e w2 ⟨FA, Fc, LA, Lc, SA, Sc, rfl, hm2⟩
  dsimp only
  have M2 := Lib.hid (M0.out.join hm2)
  clear hm2 M0 p0 p1 p2 p3 p4 q0 q1 q2 q3 q4
  go_upto_region 2 with fail
  have M3 := Lib.hid (M2.out.alloc 30 #[.slice FA R.frame.length Fc, .slice LA R.lost.length Lc, .slice SA R.fresh.length Sc])
  clear M2
  have HZ7 : Hid (w2.heap.size < (w2.alloc (.cells #[.slice FA R.frame.length Fc, .slice LA R.lost.length Lc, .slice SA R.fresh.length Sc] 30)).heap.size) := by simp [Hid]
  generalize World.alloc _ _ = w3 at M3 HZ7 ⊢
  generalize w2.heap.size = g7 at M3 HZ7 ⊢
  have px := M3.out.cellK 2 rfl
  have qx := M3.out.cellK 1 rfl
  have p0 : w3.cell? ⟨gb, 0, none⟩ = some (.int .i64 vk) := px 0
  have p1 : w3.cell? ⟨gb, 1, none⟩ = some (.string vname) := px 1
  have p2 : w3.cell? ⟨gb, 2, none⟩ = some (.slice fA fn fc) := px 2
  have p3 : w3.cell? ⟨gb, 3, none⟩ = some (.slice sA sn sc) := px 3
  have p4 : w3.cell? ⟨gb, 4, none⟩ = some (.slice tA tn tc) := px 4
  have q0 : w3.cell? ⟨gb + 1, 0, none⟩ = some (.int .i64 uk) := qx 0
  have q1 : w3.cell? ⟨gb + 1, 1, none⟩ = some (.string uname) := qx 1
  have q2 : w3.cell? ⟨gb + 1, 2, none⟩ = some (.slice gA gn gc) := qx 2
  have q3 : w3.cell? ⟨gb + 1, 3, none⟩ = some (.slice hA hn' hc) := qx 3
  have q4 : w3.cell? ⟨gb + 1, 4, none⟩ = some (.slice iA inn ic) := qx 4
  clear px qx
  have M4 := Lib.hid ((M3.out.alloc 27 #[.int .i64 vk, .string vname, .slice fA fn fc, .slice sA sn sc, .slice tA tn tc, .int .i64 uk, .string uname, .slice gA gn gc, .slice hA hn' hc, .slice iA inn ic]).alloc 36 #[.slice (some ⟨w3.heap.size, 0, none⟩) 2 2])
  simp only [World.size_alloc] at M4
  go_upto_region 3 with fail
  clear p0 p1 p2 p3 p4 q0 q1 q2 q3 q4
  generalize World.alloc (World.alloc w3 _) _ = w4 at M4 ⊢
  have HZ9 : Hid (g7 < w3.heap.size) := HZ7
  clear HZ7
  generalize w3.heap.size = g8 at M4 HZ9 ⊢
  have HCD : Hid (CRd w4 (some ⟨g8, 0, none⟩) 2 [⟨vk, vname, fA, fn, fc, sA, sn, sc, tA, tn, tc⟩, ⟨uk, uname, gA, gn, gc, hA, hn', hc, iA, inn, ic⟩] [po, pn]) := Lib.hid (code_two (M4.out.blkK 1 rfl) (HV.out.1.below M4.out.bel) (HV.out.2.below M4.out.bel))
  have HZ10 : Hid (g8 < w4.heap.size) := (M4.out.ltK 1 rfl).2
  have x0 : w4.cell? ⟨g8 + 1, 0, none⟩ = some (.slice (some ⟨g8, 0, none⟩) 2 2) := M4.out.cellK 0 rfl 0
  go_wp2_with fail
  refine (copyCode_any (some ⟨g8, 0, none⟩) 2 2 _ _ w4 HCD.out HO.out (by omega)).mono ?_
  rintro e w5 ⟨B, cB, us, rfl, hb5, hcc⟩
  dsimp only
  have M6 := Lib.hid ((M4.out.below hb5).alloc 36 #[.slice B 2 cB])
  have B6 : Hid (Below w4.heap.size w4 (w5.alloc (.cells #[.slice B 2 cB] 36))) := Lib.hid (hb5.alloc hb5.size _)
  have C6 : Hid (CCp w4.heap.size (w5.alloc (.cells #[.slice B 2 cB] 36)) B 2 us [po, pn]) := Lib.hid (hcc.below (below_alloc _))
  have HZ11 : Hid (w4.heap.size ≤ w5.heap.size) := hb5.size
  clear hb5 hcc x0
  go_upto_region 4 with fail
  generalize World.alloc w5 _ = w6 at M6 B6 C6 ⊢
  generalize w5.heap.size = g10 at M6 HZ11 ⊢
  -- what is there behind the copy, and stays
  have D6 : Hid (CRd w6 (some ⟨g8, 0, none⟩) 2 [⟨vk, vname, fA, fn, fc, sA, sn, sc, tA, tn, tc⟩, ⟨uk, uname, gA, gn, gc, hA, hn', hc, iA, inn, ic⟩] [po, pn]) := Lib.hid (HCD.out.below B6.out)
  have R6 : Hid (Rd w6 1 A n (ints frame)) := Lib.hid (HR.out.below M6.out.bel)
  have HL6 : Hid (frame.length = n) := rd_len HR.out
  clear HCD HR HV HK1
  have hvl : us.length = 2 := C6.out.rd.vlen
  obtain ⟨b, o, v0, p0, rfl, hv0, hp0, hr0, hbl, c0, c1, c2, c3, c4⟩ := C6.out.rd.at (show 0 < 2 by omega)
  obtain ⟨b', o', v1, p1, e', hv1, hp1, hr1, _, d0, d1, d2, d3, d4⟩ := C6.out.rd.at (show 1 < 2 by omega)
  injection e' with e'
  injection e' with e1 e2
  subst e1 e2
  obtain rfl := Option.some.inj hp0
  obtain rfl := Option.some.inj hp1
  have x10 : w6.cell? ⟨g10, 0, none⟩ = some (.slice (some ⟨b, o, none⟩) 2 cB) := M6.out.cellK 0 rfl 0
  have hg10 := (M6.out.ltK 0 rfl).2
  obtain ⟨k0, m0, fA0, fn0, fc0, sA0, sn0, sc0, tA0, tn0, tc0⟩ := v0
  obtain ⟨k1, m1, fA1, fn1, fc1, sA1, sn1, sc1, tA1, tn1, tc1⟩ := v1
  dsimp only at c0 c1 c2 c3 c4 d0 d1 d2 d3 d4
  simp only [Nat.zero_mul, Nat.one_mul, Nat.add_zero] at c0 c1 c2 c3 c4 d0 d1 d2 d3 d4
  have HPR : Hid (PRd w6 ⟨k0, m0, fA0, fn0, fc0, sA0, sn0, sc0, tA0, tn0, tc0⟩ po ∧ PRd w6 ⟨k1, m1, fA1, fn1, fc1, sA1, sn1, sc1, tA1, tn1, tc1⟩ pn) := Lib.hid ⟨hr0, hr1⟩
  have HFI : Hid (∃ g, fA1 = some ⟨g, 0, none⟩ ∧ fc1 = fn1 + 5 ∧ w6.ownsRow w4.heap.size 3 1 (.slice (some ⟨g, 0, none⟩) (fn1 + 5) (fn1 + 5)) (fn1 + 5) (ints (pn.first ++ marks fn1))) := Lib.hid (C6.out.each 1 _ _ hv1 rfl).first
  have HCL : Hid (∀ w' : World, Below w6.heap.size w6 w' → w'.cell? ⟨g10, 0, none⟩ = some (.slice (some ⟨b, o, none⟩) 2 cB) ∧ w'.cell? ⟨b, o, none⟩ = some (.int .i64 k0) ∧ w'.cell? ⟨b, o + 1, none⟩ = some (.string m0) ∧ w'.cell? ⟨b, o + 2, none⟩ = some (.slice fA0 fn0 fc0) ∧ w'.cell? ⟨b, o + 3, none⟩ = some (.slice sA0 sn0 sc0) ∧ w'.cell? ⟨b, o + 4, none⟩ = some (.slice tA0 tn0 tc0) ∧
      w'.cell? ⟨b, o + 5, none⟩ = some (.int .i64 k1) ∧ w'.cell? ⟨b, o + 5 + 1, none⟩ = some (.string m1) ∧ w'.cell? ⟨b, o + 5 + 2, none⟩ = some (.slice fA1 fn1 fc1) ∧ w'.cell? ⟨b, o + 5 + 3, none⟩ = some (.slice sA1 sn1 sc1) ∧ w'.cell? ⟨b, o + 5 + 4, none⟩ = some (.slice tA1 tn1 tc1)) :=
    Lib.hid fun w' hb => ⟨(hb.cell hg10).trans x10, (hb.cell hbl).trans c0, (hb.cell hbl).trans c1, (hb.cell hbl).trans c2, (hb.cell hbl).trans c3, (hb.cell hbl).trans c4, (hb.cell hbl).trans d0, (hb.cell hbl).trans d1, (hb.cell hbl).trans d2, (hb.cell hbl).trans d3, (hb.cell hbl).trans d4⟩
  clear hv0 hv1 hp0 hp1 hr0 hr1 hbl c0 c1 c2 c3 c4 d0 d1 d2 d3 d4 x10 hg10 hvl
  go_wp2_with (at_builtin; refine wpList_append_rd _ rfl (.const (.slice none 0 0)) (.tmp 29) 23 rfl w6.heap.size 3 i0 _ 1 8 Try.underlying23 hi0 hz0 hz1 hz2 rfl (by omega) _ 0 [] rfl (World.ownsRow_nil _ _ _ _) A n c (ints frame) rfl R6.out (ones _ _) ?_ ?_ ?_ ?_)
  · unfold maxLen; omega
  · omega
  · intro v' w7 ho1 hg1 hat1
    obtain ⟨A1, c1, rfl, _⟩ := own_shape ho1
    try simp only [Nat.zero_add, List.nil_append] at ho1
    have N1 : Hid (Mem w6 w7 [] [⟨3, 1, A1, n, c1, ints frame⟩]) := Lib.hid ((Mem.start w6).made (Grow.below hg1 (Nat.le_refl _) (fun g h => by simp [Value.ownBlock] at h)) ho1)
    clear ho1 hg1 hat1
    try simp only [Nat.zero_add]
    have hn1 := (N1.out.shapeO 0 rfl).1
    go_upto_region 5 with fail
    go_cut [12, 13] from 31 to 43 (fun v12 v13 wc => ∃ gz FB Fb LB Lb SB Sb, v12 = .pointer (some ⟨gz, 0, none⟩) ∧ v13 = .int .i64 R.err ∧ Hid (Mem w6 wc [⟨gz, 30, #[.slice FB R.frame.length Fb, .slice LB R.lost.length Lb, .slice SB R.fresh.length Sb]⟩] [⟨3, 1, FB, R.frame.length, Fb, ints R.frame⟩, ⟨9, 1, LB, R.lost.length, Lb, strs R.lost⟩, ⟨9, 1, SB, R.fresh.length, Sb, strs R.fresh⟩, ⟨3, 1, A1, n, c1, ints frame⟩]))
    case first =>
      have E0 := Lib.hid N1.out.drew
      clear N1
      have sE := HCL.out _ E0.out.bel
      refine wp_region_held_drew (S := fun w' => w'.cell? ⟨g10, 0, none⟩ = some (.slice (some ⟨b, o, none⟩) 2 cB) ∧ w'.cell? ⟨b, o, none⟩ = some (.int .i64 k0) ∧ w'.cell? ⟨b, o + 1, none⟩ = some (.string m0) ∧ w'.cell? ⟨b, o + 2, none⟩ = some (.slice fA0 fn0 fc0) ∧ w'.cell? ⟨b, o + 3, none⟩ = some (.slice sA0 sn0 sc0) ∧ w'.cell? ⟨b, o + 4, none⟩ = some (.slice tA0 tn0 tc0) ∧ w'.cell? ⟨b, o + 5, none⟩ = some (.int .i64 k1) ∧ w'.cell? ⟨b, o + 5 + 1, none⟩ = some (.string m1) ∧ w'.cell? ⟨b, o + 5 + 2, none⟩ = some (.slice fA1 fn1 fc1) ∧ w'.cell? ⟨b, o + 5 + 3, none⟩ = some (.slice sA1 sn1 sc1) ∧ w'.cell? ⟨b, o + 5 + 4, none⟩ = some (.slice tA1 tn1 tc1)) (by kernel_rfl) ?_ (fun hHeld => ?_)
      · exact sE
      clear sE
      generalize w7.drew = wd at E0 hHeld ⊢
      refine wpAnyH_take (i := 0) (v := ?_) rfl (by kernel_rfl) (by kernel_rfl) (by kernel_rfl) (fun _ _ _ h => h) (Or.inl ⟨by rfl, ?_⟩) (by assumption) ?_
      rotate_left
      · intro w' hSw
        (try dsimp only at hSw)
        (try obtain ⟨s0, s1, s2, s3, s4, s5, s6, s7, s8, s9, s10⟩ := hSw)
        go_simp
        try with_reducible rfl
      try simp only [Act.put, List.getElem_toArray, List.getElem_cons_zero, List.setIfInBounds_toArray, List.set_cons_zero, List.set_cons_succ]
      refine wpAnyH_take (i := 1) (v := ?_) rfl (by kernel_rfl) (by kernel_rfl) (by kernel_rfl) (fun _ _ _ h => h) (Or.inl ⟨by rfl, ?_⟩) (by assumption) ?_
      rotate_left
      · intro w' hSw
        (try dsimp only at hSw)
        (try obtain ⟨s0, s1, s2, s3, s4, s5, s6, s7, s8, s9, s10⟩ := hSw)
        go_simp
        try with_reducible rfl
      try simp only [Act.put, List.getElem_toArray, List.getElem_cons_zero, List.getElem_cons_succ, List.setIfInBounds_toArray, List.set_cons_zero, List.set_cons_succ]
      refine wpAnyH_take (i := 2) (v := ?_) rfl (by kernel_rfl) (by kernel_rfl) (by kernel_rfl) (fun _ _ _ h => h) (Or.inl ⟨by rfl, ?_⟩) (by assumption) ?_
      rotate_left
      · intro w' hSw
        (try dsimp only at hSw)
        (try obtain ⟨s0, s1, s2, s3, s4, s5, s6, s7, s8, s9, s10⟩ := hSw)
        go_simp
        try with_reducible rfl
      try simp only [Act.put, List.getElem_toArray, List.getElem_cons_zero, List.getElem_cons_succ, List.setIfInBounds_toArray, List.set_cons_zero, List.set_cons_succ]
      refine wpAnyH_take (i := 3) (v := ?_) rfl (by kernel_rfl) (by kernel_rfl) (by kernel_rfl) (fun _ _ _ h => h) (Or.inl ⟨by rfl, ?_⟩) (by assumption) ?_
      rotate_left
      · intro w' hSw
        (try dsimp only at hSw)
        (try obtain ⟨s0, s1, s2, s3, s4, s5, s6, s7, s8, s9, s10⟩ := hSw)
        go_simp
        try with_reducible rfl
      try simp only [Act.put, List.getElem_toArray, List.getElem_cons_zero, List.getElem_cons_succ, List.setIfInBounds_toArray, List.set_cons_zero, List.set_cons_succ]
      refine wpAnyH_take (i := 4) (v := ?_) rfl (by kernel_rfl) (by kernel_rfl) (by kernel_rfl) (fun _ _ _ h => h) (Or.inl ⟨by rfl, ?_⟩) (by assumption) ?_
      rotate_left
      · intro w' hSw
        (try dsimp only at hSw)
        (try obtain ⟨s0, s1, s2, s3, s4, s5, s6, s7, s8, s9, s10⟩ := hSw)
        go_simp
        try with_reducible rfl
      try simp only [Act.put, List.getElem_toArray, List.getElem_cons_zero, List.getElem_cons_succ, List.setIfInBounds_toArray, List.set_cons_zero, List.set_cons_succ]
      refine wpAnyH_take (i := 5) (v := ?_) rfl (by kernel_rfl) (by kernel_rfl) (by kernel_rfl) (fun _ _ _ h => h) (Or.inl ⟨by rfl, ?_⟩) (by assumption) ?_
      rotate_left
      · intro w' hSw
        (try dsimp only at hSw)
        (try obtain ⟨s0, s1, s2, s3, s4, s5, s6, s7, s8, s9, s10⟩ := hSw)
        go_simp
        try with_reducible rfl
      try simp only [Act.put, List.getElem_toArray, List.getElem_cons_zero, List.getElem_cons_succ, List.setIfInBounds_toArray, List.set_cons_zero, List.set_cons_succ]
      refine wpAnyH_take (i := 6) (v := ?_) rfl (by kernel_rfl) (by kernel_rfl) (by kernel_rfl) (fun _ _ _ h => h) (Or.inl ⟨by rfl, ?_⟩) (by assumption) ?_
      rotate_left
      · intro w' hSw
        (try dsimp only at hSw)
        (try obtain ⟨s0, s1, s2, s3, s4, s5, s6, s7, s8, s9, s10⟩ := hSw)
        go_simp
        try with_reducible rfl
      try simp only [Act.put, List.getElem_toArray, List.getElem_cons_zero, List.getElem_cons_succ, List.setIfInBounds_toArray, List.set_cons_zero, List.set_cons_succ]
      refine wpAnyH_take (i := 7) (v := ?_) rfl (by kernel_rfl) (by kernel_rfl) (by kernel_rfl) (fun _ _ _ h => h) (Or.inl ⟨by rfl, ?_⟩) (by assumption) ?_
      rotate_left
      · intro w' hSw
        (try dsimp only at hSw)
        (try obtain ⟨s0, s1, s2, s3, s4, s5, s6, s7, s8, s9, s10⟩ := hSw)
        go_simp
        try with_reducible rfl
      try simp only [Act.put, List.getElem_toArray, List.getElem_cons_zero, List.getElem_cons_succ, List.setIfInBounds_toArray, List.set_cons_zero, List.set_cons_succ]
      refine wpAnyH_take (i := 8) (v := ?_) rfl (by kernel_rfl) (by kernel_rfl) (by kernel_rfl) (fun _ _ _ h => h) (Or.inl ⟨by rfl, ?_⟩) (by assumption) ?_
      rotate_left
      · intro w' hSw
        (try dsimp only at hSw)
        (try obtain ⟨s0, s1, s2, s3, s4, s5, s6, s7, s8, s9, s10⟩ := hSw)
        go_simp
        try with_reducible rfl
      try simp only [Act.put, List.getElem_toArray, List.getElem_cons_zero, List.getElem_cons_succ, List.setIfInBounds_toArray, List.set_cons_zero, List.set_cons_succ]
      refine wpAnyH_ready (rs := [9, 13]) (by kernel_rfl) (by simp) ?_
      refine (AllReadyH.cons rfl (fun K hK => ?_) (AllReadyH.cons rfl (fun K hK => ?_) AllReadyH.nil))
      · have HKK := Lib.hid hK
        clear hK
        go_simp
        refine (HK2.out _ ⟨k0, m0, fA0, fn0, fc0, sA0, sn0, sc0, tA0, tn0, tc0⟩ ⟨k1, m1, fA1, fn1, fc1, sA1, sn1, sc1, tA1, tn1, tc1⟩ A1 c1 (HPR.out.1.below E0.out.bel) (HPR.out.2.below E0.out.bel) (E0.out.rdO 0 rfl) hn1).mono ?_
        rintro e wz ⟨FB, Fb, LB, Lb, SB, Sb, rfl, hm⟩
        try dsimp only
        have E1 := Lib.hid (E0.out.join hm)
        clear hm
        refine HKK.out _ _ (HCL.out _ E1.out.bel) (fun hHeld => ?_)
        clear HKK K
        try simp only [Act.put, List.getElem_toArray, List.getElem_cons_zero, List.getElem_cons_succ, List.setIfInBounds_toArray, List.set_cons_zero, List.set_cons_succ]
        refine wpAnyH_take (i := 10) (v := ?_) rfl (by kernel_rfl) (by kernel_rfl) (by kernel_rfl) (fun _ _ _ h => h) (Or.inl ⟨by rfl, ?_⟩) (by assumption) ?_
        rotate_left
        · intro w' hSw
          (try dsimp only at hSw)
          (try obtain ⟨s0, s1, s2, s3, s4, s5, s6, s7, s8, s9, s10⟩ := hSw)
          go_simp
          try with_reducible rfl
        try simp only [Act.put, List.getElem_toArray, List.getElem_cons_zero, List.getElem_cons_succ, List.setIfInBounds_toArray, List.set_cons_zero, List.set_cons_succ]
        refine wpAnyH_take (i := 11) (v := ?_) rfl (by kernel_rfl) (by kernel_rfl) (by kernel_rfl) (fun _ _ _ h => h) (Or.inl ⟨by rfl, ?_⟩) (by assumption) ?_
        rotate_left
        · intro w' hSw
          (try dsimp only at hSw)
          (try obtain ⟨s0, s1, s2, s3, s4, s5, s6, s7, s8, s9, s10⟩ := hSw)
          go_simp
          try with_reducible rfl
        try simp only [Act.put, List.getElem_toArray, List.getElem_cons_zero, List.getElem_cons_succ, List.setIfInBounds_toArray, List.set_cons_zero, List.set_cons_succ]
        refine wpAnyH_take (i := 12) (v := ?_) rfl (by kernel_rfl) (by kernel_rfl) (by kernel_rfl) (fun _ _ _ h => h) (Or.inl ⟨by rfl, ?_⟩) (by assumption) ?_
        rotate_left
        · intro w' hSw
          (try dsimp only at hSw)
          (try obtain ⟨s0, s1, s2, s3, s4, s5, s6, s7, s8, s9, s10⟩ := hSw)
          go_simp
          try with_reducible rfl
        try simp only [Act.put, List.getElem_toArray, List.getElem_cons_zero, List.getElem_cons_succ, List.setIfInBounds_toArray, List.set_cons_zero, List.set_cons_succ]
        refine wpAnyH_ready (rs := [13]) (by kernel_rfl) (by simp) ?_
        refine (AllReadyH.cons rfl (fun K hK => ?_) AllReadyH.nil)
        · have HKK := Lib.hid hK
          clear hK
          go_simp
          have E2 := Lib.hid (E1.out.alloc 30 #[.slice none 0 0, .slice none 0 0, .slice none 0 0])
          refine HKK.out _ _ (HCL.out _ E2.out.bel) (fun hHeld => ?_)
          clear HKK K
          try simp only [Act.put, List.getElem_toArray, List.getElem_cons_zero, List.getElem_cons_succ, List.setIfInBounds_toArray, List.set_cons_zero, List.set_cons_succ]
          refine wpAnyH_ready (rs := [14]) (by kernel_rfl) (by simp) ?_
          refine (AllReadyH.cons rfl (fun K hK => ?_) AllReadyH.nil)
          · have HKK := Lib.hid hK
            clear hK
            go_simp
            have bz := E2.out.cellK 0 rfl
            have fz := E2.out.frozenK 0 rfl
            have kz := (E2.out.ltK 0 rfl).2
            have gz := (E2.out.ltK 0 rfl).1
            go_simp
            have E3 := Lib.hid (E1.out.alloc 30 #[.slice FB R.frame.length Fb, .slice LB R.lost.length Lb, .slice SB R.fresh.length Sb])
            clear bz fz kz gz
            refine HKK.out _ _ (HCL.out _ E3.out.bel) (fun hHeld => ?_)
            clear HKK K
            try simp only [Act.put, List.getElem_toArray, List.getElem_cons_zero, List.getElem_cons_succ, List.setIfInBounds_toArray, List.set_cons_zero, List.set_cons_succ]
            refine wpAnyH_take (i := 15) (v := ?_) rfl (by kernel_rfl) (by kernel_rfl) (by kernel_rfl) (fun _ _ _ h => h) (Or.inl ⟨by rfl, ?_⟩) (by assumption) ?_
            rotate_left
            · intro w' hSw
              (try dsimp only at hSw)
              (try obtain ⟨s0, s1, s2, s3, s4, s5, s6, s7, s8, s9, s10⟩ := hSw)
              go_simp
              try with_reducible rfl
            try simp only [Act.put, List.getElem_toArray, List.getElem_cons_zero, List.getElem_cons_succ, List.setIfInBounds_toArray, List.set_cons_zero, List.set_cons_succ]
            refine wpAnyH_done (by kernel_rfl) ?_ _
            go_wp2
            go_meet
            exact ⟨_, _, _, _, _, _, _, rfl, rfl, E3⟩
      · have HKK := Lib.hid hK
        clear hK
        go_simp
        have E1 := Lib.hid (E0.out.alloc 30 #[.slice none 0 0, .slice none 0 0, .slice none 0 0])
        refine HKK.out _ _ (HCL.out _ E1.out.bel) (fun hHeld => ?_)
        clear HKK K
        try simp only [Act.put, List.getElem_toArray, List.getElem_cons_zero, List.getElem_cons_succ, List.setIfInBounds_toArray, List.set_cons_zero, List.set_cons_succ]
        refine wpAnyH_ready (rs := [9]) (by kernel_rfl) (by simp) ?_
        refine (AllReadyH.cons rfl (fun K hK => ?_) AllReadyH.nil)
        · have HKK := Lib.hid hK
          clear hK
          go_simp
          refine (HK2.out _ ⟨k0, m0, fA0, fn0, fc0, sA0, sn0, sc0, tA0, tn0, tc0⟩ ⟨k1, m1, fA1, fn1, fc1, sA1, sn1, sc1, tA1, tn1, tc1⟩ A1 c1 (HPR.out.1.below E1.out.bel) (HPR.out.2.below E1.out.bel) (E1.out.rdO 0 rfl) hn1).mono ?_
          rintro e wz ⟨FB, Fb, LB, Lb, SB, Sb, rfl, hm⟩
          try dsimp only
          have E2 := Lib.hid (E1.out.join hm)
          clear hm
          refine HKK.out _ _ (HCL.out _ E2.out.bel) (fun hHeld => ?_)
          clear HKK K
          try simp only [Act.put, List.getElem_toArray, List.getElem_cons_zero, List.getElem_cons_succ, List.setIfInBounds_toArray, List.set_cons_zero, List.set_cons_succ]
          refine wpAnyH_take (i := 10) (v := ?_) rfl (by kernel_rfl) (by kernel_rfl) (by kernel_rfl) (fun _ _ _ h => h) (Or.inl ⟨by rfl, ?_⟩) (by assumption) ?_
          rotate_left
          · intro w' hSw
            (try dsimp only at hSw)
            (try obtain ⟨s0, s1, s2, s3, s4, s5, s6, s7, s8, s9, s10⟩ := hSw)
            go_simp
            try with_reducible rfl
          try simp only [Act.put, List.getElem_toArray, List.getElem_cons_zero, List.getElem_cons_succ, List.setIfInBounds_toArray, List.set_cons_zero, List.set_cons_succ]
          refine wpAnyH_take (i := 11) (v := ?_) rfl (by kernel_rfl) (by kernel_rfl) (by kernel_rfl) (fun _ _ _ h => h) (Or.inl ⟨by rfl, ?_⟩) (by assumption) ?_
          rotate_left
          · intro w' hSw
            (try dsimp only at hSw)
            (try obtain ⟨s0, s1, s2, s3, s4, s5, s6, s7, s8, s9, s10⟩ := hSw)
            go_simp
            try with_reducible rfl
          try simp only [Act.put, List.getElem_toArray, List.getElem_cons_zero, List.getElem_cons_succ, List.setIfInBounds_toArray, List.set_cons_zero, List.set_cons_succ]
          refine wpAnyH_take (i := 12) (v := ?_) rfl (by kernel_rfl) (by kernel_rfl) (by kernel_rfl) (fun _ _ _ h => h) (Or.inl ⟨by rfl, ?_⟩) (by assumption) ?_
          rotate_left
          · intro w' hSw
            (try dsimp only at hSw)
            (try obtain ⟨s0, s1, s2, s3, s4, s5, s6, s7, s8, s9, s10⟩ := hSw)
            go_simp
            try with_reducible rfl
          try simp only [Act.put, List.getElem_toArray, List.getElem_cons_zero, List.getElem_cons_succ, List.setIfInBounds_toArray, List.set_cons_zero, List.set_cons_succ]
          refine wpAnyH_ready (rs := [14]) (by kernel_rfl) (by simp) ?_
          refine (AllReadyH.cons rfl (fun K hK => ?_) AllReadyH.nil)
          · have HKK := Lib.hid hK
            clear hK
            go_simp
            have bz := E2.out.cellK 0 rfl
            have fz := E2.out.frozenK 0 rfl
            have kz := (E2.out.ltK 0 rfl).2
            have gz := (E2.out.ltK 0 rfl).1
            go_simp
            have E3 := Lib.hid (((E2.out.set (i := 0) (.slice FB R.frame.length Fb)).set (i := 1) (.slice LB R.lost.length Lb)).set (i := 2) (.slice SB R.fresh.length Sb))
            clear bz fz kz gz
            refine HKK.out _ _ (HCL.out _ E3.out.bel) (fun hHeld => ?_)
            clear HKK K
            try simp only [Act.put, List.getElem_toArray, List.getElem_cons_zero, List.getElem_cons_succ, List.setIfInBounds_toArray, List.set_cons_zero, List.set_cons_succ]
            refine wpAnyH_take (i := 15) (v := ?_) rfl (by kernel_rfl) (by kernel_rfl) (by kernel_rfl) (fun _ _ _ h => h) (Or.inl ⟨by rfl, ?_⟩) (by assumption) ?_
            rotate_left
            · intro w' hSw
              (try dsimp only at hSw)
              (try obtain ⟨s0, s1, s2, s3, s4, s5, s6, s7, s8, s9, s10⟩ := hSw)
              go_simp
              try with_reducible rfl
            try simp only [Act.put, List.getElem_toArray, List.getElem_cons_zero, List.getElem_cons_succ, List.setIfInBounds_toArray, List.set_cons_zero, List.set_cons_succ]
            refine wpAnyH_done (by kernel_rfl) ?_ _
            go_wp2
            go_meet
            exact ⟨_, _, _, _, _, _, _, rfl, rfl, E3⟩
    case rest =>
      clear N1
      obtain ⟨g12, FC, Fc1, LC, Lc1, SC, Sc1, rfl, rfl, N2⟩ := hcut
      generalize wc = w8 at N2 ⊢
      go_upto_region 6 with fail
      go_cut [14, 15] from 44 to 56 (fun v12 v13 wc => ∃ gz FB Fb LB Lb SB Sb, v12 = .pointer (some ⟨gz, 0, none⟩) ∧ v13 = .int .i64 R.err ∧ Hid (Mem w6 wc [⟨gz, 30, #[.slice FB R.frame.length Fb, .slice LB R.lost.length Lb, .slice SB R.fresh.length Sb]⟩, ⟨g12, 30, #[.slice FC R.frame.length Fc1, .slice LC R.lost.length Lc1, .slice SC R.fresh.length Sc1]⟩] [⟨3, 1, FB, R.frame.length, Fb, ints R.frame⟩, ⟨9, 1, LB, R.lost.length, Lb, strs R.lost⟩, ⟨9, 1, SB, R.fresh.length, Sb, strs R.fresh⟩, ⟨3, 1, FC, R.frame.length, Fc1, ints R.frame⟩, ⟨9, 1, LC, R.lost.length, Lc1, strs R.lost⟩, ⟨9, 1, SC, R.fresh.length, Sc1, strs R.fresh⟩, ⟨3, 1, A1, n, c1, ints frame⟩]))
      case first =>
        have E0 := Lib.hid N2.out.drew
        clear N2
        have sE := HCL.out _ E0.out.bel
        refine wp_region_held_drew (S := fun w' => w'.cell? ⟨g10, 0, none⟩ = some (.slice (some ⟨b, o, none⟩) 2 cB) ∧ w'.cell? ⟨b, o, none⟩ = some (.int .i64 k0) ∧ w'.cell? ⟨b, o + 1, none⟩ = some (.string m0) ∧ w'.cell? ⟨b, o + 2, none⟩ = some (.slice fA0 fn0 fc0) ∧ w'.cell? ⟨b, o + 3, none⟩ = some (.slice sA0 sn0 sc0) ∧ w'.cell? ⟨b, o + 4, none⟩ = some (.slice tA0 tn0 tc0) ∧ w'.cell? ⟨b, o + 5, none⟩ = some (.int .i64 k1) ∧ w'.cell? ⟨b, o + 5 + 1, none⟩ = some (.string m1) ∧ w'.cell? ⟨b, o + 5 + 2, none⟩ = some (.slice fA1 fn1 fc1) ∧ w'.cell? ⟨b, o + 5 + 3, none⟩ = some (.slice sA1 sn1 sc1) ∧ w'.cell? ⟨b, o + 5 + 4, none⟩ = some (.slice tA1 tn1 tc1)) (by kernel_rfl) ?_ (fun hHeld => ?_)
        · exact sE
        clear sE
        generalize w8.drew = wd at E0 hHeld ⊢
        refine wpAnyH_take (i := 0) (v := ?_) rfl (by kernel_rfl) (by kernel_rfl) (by kernel_rfl) (fun _ _ _ h => h) (Or.inl ⟨by rfl, ?_⟩) (by assumption) ?_
        rotate_left
        · intro w' hSw
          (try dsimp only at hSw)
          (try obtain ⟨s0, s1, s2, s3, s4, s5, s6, s7, s8, s9, s10⟩ := hSw)
          go_simp
          try with_reducible rfl
        try simp only [Act.put, List.getElem_toArray, List.getElem_cons_zero, List.setIfInBounds_toArray, List.set_cons_zero, List.set_cons_succ]
        refine wpAnyH_take (i := 1) (v := ?_) rfl (by kernel_rfl) (by kernel_rfl) (by kernel_rfl) (fun _ _ _ h => h) (Or.inl ⟨by rfl, ?_⟩) (by assumption) ?_
        rotate_left
        · intro w' hSw
          (try dsimp only at hSw)
          (try obtain ⟨s0, s1, s2, s3, s4, s5, s6, s7, s8, s9, s10⟩ := hSw)
          go_simp
          try with_reducible rfl
        try simp only [Act.put, List.getElem_toArray, List.getElem_cons_zero, List.getElem_cons_succ, List.setIfInBounds_toArray, List.set_cons_zero, List.set_cons_succ]
        refine wpAnyH_take (i := 2) (v := ?_) rfl (by kernel_rfl) (by kernel_rfl) (by kernel_rfl) (fun _ _ _ h => h) (Or.inl ⟨by rfl, ?_⟩) (by assumption) ?_
        rotate_left
        · intro w' hSw
          (try dsimp only at hSw)
          (try obtain ⟨s0, s1, s2, s3, s4, s5, s6, s7, s8, s9, s10⟩ := hSw)
          go_simp
          try with_reducible rfl
        try simp only [Act.put, List.getElem_toArray, List.getElem_cons_zero, List.getElem_cons_succ, List.setIfInBounds_toArray, List.set_cons_zero, List.set_cons_succ]
        refine wpAnyH_take (i := 3) (v := ?_) rfl (by kernel_rfl) (by kernel_rfl) (by kernel_rfl) (fun _ _ _ h => h) (Or.inl ⟨by rfl, ?_⟩) (by assumption) ?_
        rotate_left
        · intro w' hSw
          (try dsimp only at hSw)
          (try obtain ⟨s0, s1, s2, s3, s4, s5, s6, s7, s8, s9, s10⟩ := hSw)
          go_simp
          try with_reducible rfl
        try simp only [Act.put, List.getElem_toArray, List.getElem_cons_zero, List.getElem_cons_succ, List.setIfInBounds_toArray, List.set_cons_zero, List.set_cons_succ]
        refine wpAnyH_take (i := 4) (v := ?_) rfl (by kernel_rfl) (by kernel_rfl) (by kernel_rfl) (fun _ _ _ h => h) (Or.inl ⟨by rfl, ?_⟩) (by assumption) ?_
        rotate_left
        · intro w' hSw
          (try dsimp only at hSw)
          (try obtain ⟨s0, s1, s2, s3, s4, s5, s6, s7, s8, s9, s10⟩ := hSw)
          go_simp
          try with_reducible rfl
        try simp only [Act.put, List.getElem_toArray, List.getElem_cons_zero, List.getElem_cons_succ, List.setIfInBounds_toArray, List.set_cons_zero, List.set_cons_succ]
        refine wpAnyH_take (i := 5) (v := ?_) rfl (by kernel_rfl) (by kernel_rfl) (by kernel_rfl) (fun _ _ _ h => h) (Or.inl ⟨by rfl, ?_⟩) (by assumption) ?_
        rotate_left
        · intro w' hSw
          (try dsimp only at hSw)
          (try obtain ⟨s0, s1, s2, s3, s4, s5, s6, s7, s8, s9, s10⟩ := hSw)
          go_simp
          try with_reducible rfl
        try simp only [Act.put, List.getElem_toArray, List.getElem_cons_zero, List.getElem_cons_succ, List.setIfInBounds_toArray, List.set_cons_zero, List.set_cons_succ]
        refine wpAnyH_take (i := 6) (v := ?_) rfl (by kernel_rfl) (by kernel_rfl) (by kernel_rfl) (fun _ _ _ h => h) (Or.inl ⟨by rfl, ?_⟩) (by assumption) ?_
        rotate_left
        · intro w' hSw
          (try dsimp only at hSw)
          (try obtain ⟨s0, s1, s2, s3, s4, s5, s6, s7, s8, s9, s10⟩ := hSw)
          go_simp
          try with_reducible rfl
        try simp only [Act.put, List.getElem_toArray, List.getElem_cons_zero, List.getElem_cons_succ, List.setIfInBounds_toArray, List.set_cons_zero, List.set_cons_succ]
        refine wpAnyH_take (i := 7) (v := ?_) rfl (by kernel_rfl) (by kernel_rfl) (by kernel_rfl) (fun _ _ _ h => h) (Or.inl ⟨by rfl, ?_⟩) (by assumption) ?_
        rotate_left
        · intro w' hSw
          (try dsimp only at hSw)
          (try obtain ⟨s0, s1, s2, s3, s4, s5, s6, s7, s8, s9, s10⟩ := hSw)
          go_simp
          try with_reducible rfl
        try simp only [Act.put, List.getElem_toArray, List.getElem_cons_zero, List.getElem_cons_succ, List.setIfInBounds_toArray, List.set_cons_zero, List.set_cons_succ]
        refine wpAnyH_take (i := 8) (v := ?_) rfl (by kernel_rfl) (by kernel_rfl) (by kernel_rfl) (fun _ _ _ h => h) (Or.inl ⟨by rfl, ?_⟩) (by assumption) ?_
        rotate_left
        · intro w' hSw
          (try dsimp only at hSw)
          (try obtain ⟨s0, s1, s2, s3, s4, s5, s6, s7, s8, s9, s10⟩ := hSw)
          go_simp
          try with_reducible rfl
        try simp only [Act.put, List.getElem_toArray, List.getElem_cons_zero, List.getElem_cons_succ, List.setIfInBounds_toArray, List.set_cons_zero, List.set_cons_succ]
        refine wpAnyH_ready (rs := [9, 13]) (by kernel_rfl) (by simp) ?_
        refine (AllReadyH.cons rfl (fun K hK => ?_) (AllReadyH.cons rfl (fun K hK => ?_) AllReadyH.nil))
        · have HKK := Lib.hid hK
          clear hK
          go_simp
          refine (HK2.out _ ⟨k0, m0, fA0, fn0, fc0, sA0, sn0, sc0, tA0, tn0, tc0⟩ ⟨k1, m1, fA1, fn1, fc1, sA1, sn1, sc1, tA1, tn1, tc1⟩ A1 c1 (HPR.out.1.below E0.out.bel) (HPR.out.2.below E0.out.bel) (E0.out.rdO 3 rfl) hn1).mono ?_
          rintro e wz ⟨FB, Fb, LB, Lb, SB, Sb, rfl, hm⟩
          try dsimp only
          have E1 := Lib.hid (E0.out.join hm)
          clear hm
          refine HKK.out _ _ (HCL.out _ E1.out.bel) (fun hHeld => ?_)
          clear HKK K
          try simp only [Act.put, List.getElem_toArray, List.getElem_cons_zero, List.getElem_cons_succ, List.setIfInBounds_toArray, List.set_cons_zero, List.set_cons_succ]
          refine wpAnyH_take (i := 10) (v := ?_) rfl (by kernel_rfl) (by kernel_rfl) (by kernel_rfl) (fun _ _ _ h => h) (Or.inl ⟨by rfl, ?_⟩) (by assumption) ?_
          rotate_left
          · intro w' hSw
            (try dsimp only at hSw)
            (try obtain ⟨s0, s1, s2, s3, s4, s5, s6, s7, s8, s9, s10⟩ := hSw)
            go_simp
            try with_reducible rfl
          try simp only [Act.put, List.getElem_toArray, List.getElem_cons_zero, List.getElem_cons_succ, List.setIfInBounds_toArray, List.set_cons_zero, List.set_cons_succ]
          refine wpAnyH_take (i := 11) (v := ?_) rfl (by kernel_rfl) (by kernel_rfl) (by kernel_rfl) (fun _ _ _ h => h) (Or.inl ⟨by rfl, ?_⟩) (by assumption) ?_
          rotate_left
          · intro w' hSw
            (try dsimp only at hSw)
            (try obtain ⟨s0, s1, s2, s3, s4, s5, s6, s7, s8, s9, s10⟩ := hSw)
            go_simp
            try with_reducible rfl
          try simp only [Act.put, List.getElem_toArray, List.getElem_cons_zero, List.getElem_cons_succ, List.setIfInBounds_toArray, List.set_cons_zero, List.set_cons_succ]
          refine wpAnyH_take (i := 12) (v := ?_) rfl (by kernel_rfl) (by kernel_rfl) (by kernel_rfl) (fun _ _ _ h => h) (Or.inl ⟨by rfl, ?_⟩) (by assumption) ?_
          rotate_left
          · intro w' hSw
            (try dsimp only at hSw)
            (try obtain ⟨s0, s1, s2, s3, s4, s5, s6, s7, s8, s9, s10⟩ := hSw)
            go_simp
            try with_reducible rfl
          try simp only [Act.put, List.getElem_toArray, List.getElem_cons_zero, List.getElem_cons_succ, List.setIfInBounds_toArray, List.set_cons_zero, List.set_cons_succ]
          refine wpAnyH_ready (rs := [13]) (by kernel_rfl) (by simp) ?_
          refine (AllReadyH.cons rfl (fun K hK => ?_) AllReadyH.nil)
          · have HKK := Lib.hid hK
            clear hK
            go_simp
            have E2 := Lib.hid (E1.out.alloc 30 #[.slice none 0 0, .slice none 0 0, .slice none 0 0])
            refine HKK.out _ _ (HCL.out _ E2.out.bel) (fun hHeld => ?_)
            clear HKK K
            try simp only [Act.put, List.getElem_toArray, List.getElem_cons_zero, List.getElem_cons_succ, List.setIfInBounds_toArray, List.set_cons_zero, List.set_cons_succ]
            refine wpAnyH_ready (rs := [14]) (by kernel_rfl) (by simp) ?_
            refine (AllReadyH.cons rfl (fun K hK => ?_) AllReadyH.nil)
            · have HKK := Lib.hid hK
              clear hK
              go_simp
              have bz := E2.out.cellK 0 rfl
              have fz := E2.out.frozenK 0 rfl
              have kz := (E2.out.ltK 0 rfl).2
              have gz := (E2.out.ltK 0 rfl).1
              go_simp
              have E3 := Lib.hid (E1.out.alloc 30 #[.slice FB R.frame.length Fb, .slice LB R.lost.length Lb, .slice SB R.fresh.length Sb])
              clear bz fz kz gz
              refine HKK.out _ _ (HCL.out _ E3.out.bel) (fun hHeld => ?_)
              clear HKK K
              try simp only [Act.put, List.getElem_toArray, List.getElem_cons_zero, List.getElem_cons_succ, List.setIfInBounds_toArray, List.set_cons_zero, List.set_cons_succ]
              refine wpAnyH_take (i := 15) (v := ?_) rfl (by kernel_rfl) (by kernel_rfl) (by kernel_rfl) (fun _ _ _ h => h) (Or.inl ⟨by rfl, ?_⟩) (by assumption) ?_
              rotate_left
              · intro w' hSw
                (try dsimp only at hSw)
                (try obtain ⟨s0, s1, s2, s3, s4, s5, s6, s7, s8, s9, s10⟩ := hSw)
                go_simp
                try with_reducible rfl
              try simp only [Act.put, List.getElem_toArray, List.getElem_cons_zero, List.getElem_cons_succ, List.setIfInBounds_toArray, List.set_cons_zero, List.set_cons_succ]
              refine wpAnyH_done (by kernel_rfl) ?_ _
              go_wp2
              go_meet
              exact ⟨_, _, _, _, _, _, _, rfl, rfl, E3⟩
        · have HKK := Lib.hid hK
          clear hK
          go_simp
          have E1 := Lib.hid (E0.out.alloc 30 #[.slice none 0 0, .slice none 0 0, .slice none 0 0])
          refine HKK.out _ _ (HCL.out _ E1.out.bel) (fun hHeld => ?_)
          clear HKK K
          try simp only [Act.put, List.getElem_toArray, List.getElem_cons_zero, List.getElem_cons_succ, List.setIfInBounds_toArray, List.set_cons_zero, List.set_cons_succ]
          refine wpAnyH_ready (rs := [9]) (by kernel_rfl) (by simp) ?_
          refine (AllReadyH.cons rfl (fun K hK => ?_) AllReadyH.nil)
          · have HKK := Lib.hid hK
            clear hK
            go_simp
            refine (HK2.out _ ⟨k0, m0, fA0, fn0, fc0, sA0, sn0, sc0, tA0, tn0, tc0⟩ ⟨k1, m1, fA1, fn1, fc1, sA1, sn1, sc1, tA1, tn1, tc1⟩ A1 c1 (HPR.out.1.below E1.out.bel) (HPR.out.2.below E1.out.bel) (E1.out.rdO 3 rfl) hn1).mono ?_
            rintro e wz ⟨FB, Fb, LB, Lb, SB, Sb, rfl, hm⟩
            try dsimp only
            have E2 := Lib.hid (E1.out.join hm)
            clear hm
            refine HKK.out _ _ (HCL.out _ E2.out.bel) (fun hHeld => ?_)
            clear HKK K
            try simp only [Act.put, List.getElem_toArray, List.getElem_cons_zero, List.getElem_cons_succ, List.setIfInBounds_toArray, List.set_cons_zero, List.set_cons_succ]
            refine wpAnyH_take (i := 10) (v := ?_) rfl (by kernel_rfl) (by kernel_rfl) (by kernel_rfl) (fun _ _ _ h => h) (Or.inl ⟨by rfl, ?_⟩) (by assumption) ?_
            rotate_left
            · intro w' hSw
              (try dsimp only at hSw)
              (try obtain ⟨s0, s1, s2, s3, s4, s5, s6, s7, s8, s9, s10⟩ := hSw)
              go_simp
              try with_reducible rfl
            try simp only [Act.put, List.getElem_toArray, List.getElem_cons_zero, List.getElem_cons_succ, List.setIfInBounds_toArray, List.set_cons_zero, List.set_cons_succ]
            refine wpAnyH_take (i := 11) (v := ?_) rfl (by kernel_rfl) (by kernel_rfl) (by kernel_rfl) (fun _ _ _ h => h) (Or.inl ⟨by rfl, ?_⟩) (by assumption) ?_
            rotate_left
            · intro w' hSw
              (try dsimp only at hSw)
              (try obtain ⟨s0, s1, s2, s3, s4, s5, s6, s7, s8, s9, s10⟩ := hSw)
              go_simp
              try with_reducible rfl
            try simp only [Act.put, List.getElem_toArray, List.getElem_cons_zero, List.getElem_cons_succ, List.setIfInBounds_toArray, List.set_cons_zero, List.set_cons_succ]
            refine wpAnyH_take (i := 12) (v := ?_) rfl (by kernel_rfl) (by kernel_rfl) (by kernel_rfl) (fun _ _ _ h => h) (Or.inl ⟨by rfl, ?_⟩) (by assumption) ?_
            rotate_left
            · intro w' hSw
              (try dsimp only at hSw)
              (try obtain ⟨s0, s1, s2, s3, s4, s5, s6, s7, s8, s9, s10⟩ := hSw)
              go_simp
              try with_reducible rfl
            try simp only [Act.put, List.getElem_toArray, List.getElem_cons_zero, List.getElem_cons_succ, List.setIfInBounds_toArray, List.set_cons_zero, List.set_cons_succ]
            refine wpAnyH_ready (rs := [14]) (by kernel_rfl) (by simp) ?_
            refine (AllReadyH.cons rfl (fun K hK => ?_) AllReadyH.nil)
            · have HKK := Lib.hid hK
              clear hK
              go_simp
              have bz := E2.out.cellK 0 rfl
              have fz := E2.out.frozenK 0 rfl
              have kz := (E2.out.ltK 0 rfl).2
              have gz := (E2.out.ltK 0 rfl).1
              go_simp
              have E3 := Lib.hid (((E2.out.set (i := 0) (.slice FB R.frame.length Fb)).set (i := 1) (.slice LB R.lost.length Lb)).set (i := 2) (.slice SB R.fresh.length Sb))
              clear bz fz kz gz
              refine HKK.out _ _ (HCL.out _ E3.out.bel) (fun hHeld => ?_)
              clear HKK K
              try simp only [Act.put, List.getElem_toArray, List.getElem_cons_zero, List.getElem_cons_succ, List.setIfInBounds_toArray, List.set_cons_zero, List.set_cons_succ]
              refine wpAnyH_take (i := 15) (v := ?_) rfl (by kernel_rfl) (by kernel_rfl) (by kernel_rfl) (fun _ _ _ h => h) (Or.inl ⟨by rfl, ?_⟩) (by assumption) ?_
              rotate_left
              · intro w' hSw
                (try dsimp only at hSw)
                (try obtain ⟨s0, s1, s2, s3, s4, s5, s6, s7, s8, s9, s10⟩ := hSw)
                go_simp
                try with_reducible rfl
              try simp only [Act.put, List.getElem_toArray, List.getElem_cons_zero, List.getElem_cons_succ, List.setIfInBounds_toArray, List.set_cons_zero, List.set_cons_succ]
              refine wpAnyH_done (by kernel_rfl) ?_ _
              go_wp2
              go_meet
              exact ⟨_, _, _, _, _, _, _, rfl, rfl, E3⟩
      case rest =>
        clear N2
        obtain ⟨g14, FD, Fd, LD, Ld, SD, Sd, rfl, rfl, N3⟩ := hcut
        generalize wc = w9 at N3 ⊢
        have H7 : Hid (∀ w' : World, Below w6.heap.size w6 w' → w'.cell? ⟨g7, 0, none⟩ = some (.slice FA R.frame.length Fc) ∧ w'.cell? ⟨g7, 1, none⟩ = some (.slice LA R.lost.length Lc) ∧ w'.cell? ⟨g7, 2, none⟩ = some (.slice SA R.fresh.length Sc) ∧ w'.cell? ⟨g8 + 1, 0, none⟩ = some (.slice (some ⟨g8, 0, none⟩) 2 2)) := by
          have h7 := M6.out.cellK 3 rfl
          have k7 := (M6.out.ltK 3 rfl).2
          have h8 := M6.out.cellK 1 rfl
          have k8 := (M6.out.ltK 1 rfl).2
          exact Lib.hid fun w' hb => ⟨(hb.cell k7).trans (h7 0), (hb.cell k7).trans (h7 1), (hb.cell k7).trans (h7 2), (hb.cell k8).trans (h8 0)⟩
        have HWA : Hid (∀ w' : World, Below w6.heap.size w6 w' → Rd w' 1 FA R.frame.length (ints R.frame) ∧ Rd w' 1 LA R.lost.length (strs R.lost) ∧ Rd w' 1 SA R.fresh.length (strs R.fresh)) :=
          Lib.hid fun w' hb => ⟨(M6.out.rdO 0 rfl).below hb, (M6.out.rdO 1 rfl).below hb, (M6.out.rdO 2 rfl).below hb⟩
        have l1 : R.frame.length ≤ maxLen := by unfold maxLen; omega
        have l2 : R.lost.length ≤ maxLen := by unfold maxLen; omega
        have l3 : R.fresh.length ≤ maxLen := by unfold maxLen; omega
        have ln : n ≤ maxLen := by unfold maxLen; omega
        have hne : (R.err != R.err) = false := by simp
        have cx := N3.out.cellK 1 rfl
        have dx := N3.out.cellK 0 rfl
        have x0 : w9.cell? ⟨g12, 0, none⟩ = some (.slice FC R.frame.length Fc1) := cx 0
        have x1 : w9.cell? ⟨g12, 1, none⟩ = some (.slice LC R.lost.length Lc1) := cx 1
        have x2 : w9.cell? ⟨g12, 2, none⟩ = some (.slice SC R.fresh.length Sc1) := cx 2
        obtain ⟨z0, z1, z2, _⟩ := H7.out w9 N3.out.bel
        clear cx dx
        go_wp2_with fail
        refine (sameCarried_same FC LC SC _ _ _ Fc1 Lc1 Sc1 FA LA SA Fc Lc Sc R.frame R.lost R.fresh w9 (N3.out.rdO 3 rfl) (N3.out.rdO 4 rfl) (N3.out.rdO 5 rfl) (HWA.out _ N3.out.bel).1 (HWA.out _ N3.out.bel).2.1 (HWA.out _ N3.out.bel).2.2 l1 l2 l3).mono ?_
        rintro e w10 ⟨rfl, hb⟩
        dsimp only
        have N4 := Lib.hid (N3.out.below hb)
        clear hb N3 x0 x1 x2 z0 z1 z2
        have dx := N4.out.cellK 0 rfl
        have x0 : w10.cell? ⟨g14, 0, none⟩ = some (.slice FD R.frame.length Fd) := dx 0
        have x1 : w10.cell? ⟨g14, 1, none⟩ = some (.slice LD R.lost.length Ld) := dx 1
        have x2 : w10.cell? ⟨g14, 2, none⟩ = some (.slice SD R.fresh.length Sd) := dx 2
        obtain ⟨z0, z1, z2, _⟩ := H7.out w10 N4.out.bel
        clear dx
        go_wp2_with fail
        refine (sameCarried_same FD LD SD _ _ _ Fd Ld Sd FA LA SA Fc Lc Sc R.frame R.lost R.fresh w10 (N4.out.rdO 0 rfl) (N4.out.rdO 1 rfl) (N4.out.rdO 2 rfl) (HWA.out _ N4.out.bel).1 (HWA.out _ N4.out.bel).2.1 (HWA.out _ N4.out.bel).2.2 l1 l2 l3).mono ?_
        rintro e w11 ⟨rfl, hb⟩
        dsimp only
        have N5 := Lib.hid (N4.out.below hb)
        clear hb N4 x0 x1 x2 z0 z1 z2
        have y0 := (HCL.out w11 N5.out.bel).1
        have z0 := (H7.out w11 N5.out.bel).2.2.2
        go_wp2_with fail
        refine (sameCode_true (some ⟨b, o, none⟩) (some ⟨g8, 0, none⟩) 2 cB 2 us _ [po, pn] w11 (C6.out.rd.below N5.out.bel) (D6.out.below N5.out.bel) HO.out (by omega)).mono ?_
        rintro e w12 ⟨rfl, hb⟩
        dsimp only
        have N6 := Lib.hid (N5.out.below hb)
        clear hb N5 y0 z0
        have y0 := (HCL.out w12 N6.out.bel).1
        go_wp2_with fail
        refine (spareCode_true _ (some ⟨b, o, none⟩) 2 cB us [po, pn] w12 (C6.out.below N6.out.bel) HO.out (by omega)).mono ?_
        rintro e w13 ⟨rfl, hb⟩
        dsimp only
        have N7 := Lib.hid (N6.out.below hb)
        clear hb N6 y0
        go_wp2_with fail
        refine (same_true A1 A n c1 c frame w13 (N7.out.rdO 6 rfl) (R6.out.below N7.out.bel) ln).mono ?_
        rintro e w14 ⟨rfl, q, rfl⟩
        dsimp only
        have N8 := Lib.hid (N7.out.drewN q)
        clear N7
        generalize World.drewN _ q = w14 at N8 ⊢
        have x0 : w14.cell? ⟨g12, 0, none⟩ = some (.slice FC R.frame.length Fc1) := N8.out.cellK 1 rfl 0
        go_wp2_with fail
        have MU := Lib.hid (N8.out.upO 3 rfl)
        clear N8 x0
        refine (over_any w6.heap.size _ R.frame.length _ _ _ _ (MU.out.rowO 0 rfl) MU.out.base (by omega)).mono ?_
        rintro e w15 ⟨rfl, hg⟩
        dsimp only
        have N9 := Lib.hid (MU.out.lose hg)
        clear MU hg
        have x0 : w15.cell? ⟨g12, 1, none⟩ = some (.slice LC R.lost.length Lc1) := N9.out.cellK 1 rfl 1
        go_wp2_with fail
        have MU := Lib.hid (N9.out.upO 3 rfl)
        clear N9 x0
        refine (overPaths_any w6.heap.size _ R.lost.length _ _ _ (MU.out.rowO 0 rfl) MU.out.base (by omega)).mono ?_
        rintro e w16 ⟨rfl, hg⟩
        dsimp only
        have N10 := Lib.hid (MU.out.lose hg)
        clear MU hg
        have x0 : w16.cell? ⟨g12, 2, none⟩ = some (.slice SC R.fresh.length Sc1) := N10.out.cellK 1 rfl 2
        go_wp2_with fail
        have MU := Lib.hid (N10.out.upO 3 rfl)
        clear N10 x0
        refine (overPaths_any w6.heap.size _ R.fresh.length _ _ _ (MU.out.rowO 0 rfl) MU.out.base (by omega)).mono ?_
        rintro e w17 ⟨rfl, hg⟩
        dsimp only
        have N11 := Lib.hid (MU.out.lose hg)
        clear MU hg
        go_wp2_with fail
        have MU := Lib.hid (N11.out.upO 3 rfl)
        clear N11
        refine (over_any w6.heap.size _ n _ _ _ _ (MU.out.rowO 0 rfl) MU.out.base (by omega)).mono ?_
        rintro e w18 ⟨rfl, hg⟩
        dsimp only
        have N12 := Lib.hid (MU.out.lose hg)
        clear MU hg
        have y0 := (HCL.out w18 N12.out.bel).1
        have y1 := (HCL.out w18 N12.out.bel).2.2.2.2.2.2.2.2.1
        have hfl : Hid (pn.first.length = fn1 ∧ pn.first.length * 8 ≤ 140737488351232) := Lib.hid ⟨HPR.out.2.fl, (HO.out pn (by simp)).2.2.2.2.2.1⟩
        obtain ⟨gf, e1, e2, hown⟩ := HFI.out
        subst e1 e2
        have HOW : Hid (w18.ownsRow w4.heap.size 3 1 (.slice (some ⟨gf, 0, none⟩) (fn1 + 5) (fn1 + 5)) (fn1 + 5) (ints (pn.first ++ marks fn1))) := Lib.hid (W.own_below hown N12.out.bel)
        have HGF : Hid (w4.heap.size ≤ gf ∧ gf < w6.heap.size) := own_blk_lt hown ⟨gf, 0, none⟩ rfl
        clear hown HFI
        go_wp2_with fail
        refine (over_any w4.heap.size _ fn1 _ _ _ _ (own_pre HOW.out) (Nat.le_trans (Nat.le_trans B6.out.size (Nat.le_refl _)) N12.out.base) (by have := hfl.out; omega)).mono ?_
        rintro e w19 ⟨rfl, hg⟩
        dsimp only
        have HGG : Hid (w18.grownBy w19 (some gf)) := Lib.hid hg
        have hg14 := N12.out.ltK 0 rfl
        have dx := N12.out.cellK 0 rfl
        have hm : ∀ i, w19.cell? ⟨g14, i, none⟩ = w18.cell? ⟨g14, i, none⟩ := fun i => World.cell?_of_block (HGG.out.block g14 hg14.2 (fun e => by injection e with e; have := HGF.out.2; omega))
        have hm7 : ∀ i, w19.cell? ⟨g7, i, none⟩ = w18.cell? ⟨g7, i, none⟩ := fun i => World.cell?_of_block (HGG.out.block g7 (by have := HZ9.out; have := HZ10.out; have := HGF.out; have := N12.out.base; show g7 < _; omega) (fun e => by injection e with e; have := HZ9.out; have := HZ10.out; have := HGF.out.1; omega))
        obtain ⟨z0, z1, z2, _⟩ := H7.out w18 N12.out.bel
        rw [← hm7] at z0 z1 z2
        have x0 : w19.cell? ⟨g14, 0, none⟩ = some (.slice FD R.frame.length Fd) := (hm 0).trans (dx 0)
        have x1 : w19.cell? ⟨g14, 1, none⟩ = some (.slice LD R.lost.length Ld) := (hm 1).trans (dx 1)
        have x2 : w19.cell? ⟨g14, 2, none⟩ = some (.slice SD R.fresh.length Sd) := (hm 2).trans (dx 2)
        clear hm hm7 dx hg14 hg y0 y1
        have far1 : ∀ (A : Option Addr) (e : TypeId) (k c : Nat) (xs : List Value), w18.ownsRow w6.heap.size e 1 (.slice A k c) k xs → Rd w19 1 A k xs := fun A e k c xs h => (Rd.own h).grown HGG.out (fun a ha e => by
          injection e with e
          have h1 := (own_blk_lt h a ha).1
          have h2 := HGF.out.2
          omega)
        have far2 : ∀ (A : Option Addr) (e : TypeId) (k c : Nat) (xs : List Value), w4.ownsRow w.heap.size e 1 (.slice A k c) k xs → Rd w19 1 A k xs := fun A e k c xs h => (((Rd.own h).below B6.out).below N12.out.bel).grown HGG.out (fun a ha e => by
          injection e with e
          have h1 := (own_blk_lt h a ha).2
          have h2 := HGF.out.1
          omega)
        have HF1 := Lib.hid far1
        have HF2 := Lib.hid far2
        clear far1 far2
        go_wp2_with fail
        refine (sameCarried_same FD LD SD _ _ _ Fd Ld Sd FA LA SA Fc Lc Sc R.frame R.lost R.fresh w19 (HF1.out _ _ _ _ _ (N12.out.rowO 0 rfl)) (HF1.out _ _ _ _ _ (N12.out.rowO 1 rfl)) (HF1.out _ _ _ _ _ (N12.out.rowO 2 rfl)) (HF2.out _ _ _ _ _ (M4.out.rowO 0 rfl)) (HF2.out _ _ _ _ _ (M4.out.rowO 1 rfl)) (HF2.out _ _ _ _ _ (M4.out.rowO 2 rfl)) l1 l2 l3).mono ?_
        rintro e w20 ⟨rfl, hb⟩
        dsimp only
        have BF : Hid (Below w.heap.size w w20) := Lib.hid (by
          have h1 := M6.out.bel.trans (N12.out.bel.mono M6.out.bel.size)
          have h2 : Below w.heap.size w18 w19 := Grow.below HGG.out h1.size (fun g e => by injection e with e; have := HGF.out.1; have := M4.out.base; omega)
          exact (h1.trans h2).trans (hb.mono (h1.trans h2).size))
        clear hb
        go_wp2
        go_ret
        exact ⟨rfl, BF.out⟩
theorem proc_arg {H : Type} {enc : TypeId × Value → H} {w : World} {cs : Array Value} (h : O.Op enc Try.prog w 27 cs.toList) : ∃ (v : PV) (p : PD), Value.agg cs = v.val ∧ PRd w v p ∧ p.ok := by
  obtain ⟨v, e, p, hr, hok⟩ := proc_in h
  refine ⟨v, p, ?_, hr, hok⟩
  have : cs = v.cs.toArray := by rw [← e]
  rw [this]
  rfl
theorem walk_Carry (H : Type) (enc : TypeId × Value → H) (w : World) (cs : Array Value) (ho : O.Op enc Try.prog w 27 cs.toList) (A : Option Addr) (n c : Nat) (hb : O.Op enc Try.prog w 23 [.slice A n c]) (cs' : Array Value) (ho' : O.Op enc Try.prog w 27 cs'.toList) :
    Calls Try.prog 3 #[.agg cs, .slice A n c, .agg cs'] w fun e w' => e = .returned (.bool true) ∧ Below w.heap.size w w' := by
  obtain ⟨v, po, e1, hv, hov⟩ := proc_arg ho
  obtain ⟨u, pn, e2, hu, hou⟩ := proc_arg ho'
  obtain ⟨A', n', c', zs, e3, hnc, hc, hr, _, _⟩ := hb.ints Try.underlying23 Try.underlying3 (by kernel_rfl) (by kernel_rfl)
  simp only [List.cons.injEq, Value.slice.injEq, and_true] at e3
  obtain ⟨rfl, rfl, rfl⟩ := e3
  rw [e1, e2]
  exact carry_law v u po pn _ _ _ zs w hv hu hov hou hr (by omega)
end Go.Proofs.Ytnalabohhocjaaa.Chg
