/-
  PairOne: what a side hears. Conditions: the sides fit, the beat was sent.
-/
import Derived.Test.YtlccpnloankloaaOne2
import Derived.Deep.RegionWith
import Derived.Deep.RegionHeld3
namespace Go.Proofs.Ytlccpnloankloaa.Pair
open Go.RowKit Go.Proofs.Ytlccpnloankloaa.W Go.Proofs.Ytlccpnloankloaa.Ints Go.Proofs.Ytlccpnloankloaa.Keep

theorem heardK {p : Int} {m k : Nat} {s : SS} {b : BB} (h : Fit p m s) (hp : p ≤ 1000) (hm : m ≤ 1000) (hk : k ≤ 1) (hb : b.frm ≤ 1 ∧ b.term ≤ m ∧ b.cyc ≤ m) :
    (oldQ k s b ∧ ∃ e, e ≠ 0 ∧ heededF [] (s.sd k p) 2 b.frm b.term b.cyc (sm b.cyc) 2 = (s.sd k p, e)) ∨ (¬ oldQ k s b ∧ heededF [] (s.sd k p) 2 b.frm b.term b.cyc (sm b.cyc) 2 = ((⟨false, b.term, b.cyc, 0⟩ : SS).sd k p, 0)) := by
  have hok := fit_ok h hp hm hk
  obtain ⟨b1, b2, b3⟩ := hb
  have ht : toldB b.frm b.term b.cyc 2 = true := by rw [toldB_iff]; omega
  unfold heededF
  rw [if_pos hok, if_pos ht]
  by_cases h1 : b.frm = k
  · left
    refine ⟨.inl h1, 6, by omega, ?_⟩
    rw [if_pos (show (b.frm : Int) = (s.sd k p).me by show (b.frm : Int) = k; omega)]
  rw [if_neg (show ¬ (b.frm : Int) = (s.sd k p).me by show ¬ (b.frm : Int) = k; omega)]
  by_cases h2 : b.term < s.term
  · left
    refine ⟨.inr (.inl h2), 18, by omega, ?_⟩
    rw [if_pos (show (b.term : Int) < (s.sd k p).term by show (b.term : Int) < s.term; omega)]
  rw [if_neg (show ¬ (b.term : Int) < (s.sd k p).term by show ¬ (b.term : Int) < s.term; omega)]
  by_cases h3 : b.term = s.term ∧ (s.act = true ∧ k = 0 ∨ s.act = false ∧ b.cyc < s.cyc)
  · left
    refine ⟨.inr (.inr h3), 18, by omega, ?_⟩
    obtain ⟨e1, e2⟩ := h3
    have ho : oldP (s.sd k p) b.term b.cyc := by
      refine ⟨by show (b.term : Int) = s.term; omega, ?_⟩
      rcases e2 with ⟨q1, q2⟩ | ⟨q1, q2⟩
      · exact .inl ⟨q1, by show (k : Int) = 0; omega⟩
      · exact .inr ⟨q1, by show (b.cyc : Int) < s.cyc; omega⟩
    rw [if_pos ho]
  · right
    refine ⟨fun h => ?_, ?_⟩
    · rcases h with h | h | h
      · exact h1 h
      · exact h2 h
      · exact h3 h
    · have ho : ¬ oldP (s.sd k p) b.term b.cyc := by
        rintro ⟨e1, e2⟩
        have e1 : (b.term : Int) = s.term := e1
        refine h3 ⟨by omega, ?_⟩
        rcases e2 with ⟨q1, q2⟩ | ⟨q1, q2⟩
        · exact .inl ⟨q1, by have q2 : (k : Int) = 0 := q2; omega⟩
        · exact .inr ⟨q1, by have q2 : (b.cyc : Int) < s.cyc := q2; omega⟩
      rw [if_neg ho]
      rfl

theorem heardU {p : Int} {m k : Nat} {s : SS} {b : BB} (h : Fit p m s) (hp : p ≤ 1000) (hm : m ≤ 1000) (hk : k ≤ 1) (hb : b.frm ≤ 1 ∧ b.term ≤ m ∧ b.cyc ≤ m) :
    ∃ ec : Int, heededF [] (s.sd k p) 2 b.frm b.term b.cyc (sm b.cyc) 2 = ((hearQ k s b).sd k p, ec) ∧ (ec = 0 ∧ hearQ k s b = ⟨false, b.term, b.cyc, 0⟩ ∨ ec ≠ 0) := by
  rcases heardK h hp hm hk hb with ⟨ho, e, he, h⟩ | ⟨ho, h⟩
  · exact ⟨e, by rw [hear_old ho]; exact h, .inr he⟩
  · exact ⟨0, by rw [hear_new ho]; exact h, .inl ⟨rfl, hear_new ho⟩⟩

theorem grw_one (W : World) (b i : Nat) (v : Value) : W.grownBy (W.setCell ⟨b, i, none⟩ v) (some b) :=
  ⟨rfl, rfl, rfl, by simp [World.setCell], fun k _ hk => Below.heap_setCell _ _ _ k (fun e => hk (by rw [e]))⟩
theorem grw7 (w : World) (g : Nat) (a b c d e f h : Value) : w.grownBy (((((((w.setCell ⟨g, 0, none⟩ a).setCell ⟨g, 1, none⟩ b).setCell ⟨g, 2, none⟩ c).setCell ⟨g, 3, none⟩ d).setCell ⟨g, 4, none⟩ e).setCell ⟨g, 5, none⟩ f).setCell ⟨g, 6, none⟩ h) (some g) := by
  refine Grow.trans (Grow.trans (Grow.trans (Grow.trans (Grow.trans (Grow.trans (grw_one w g 0 a) (grw_one _ g 1 b) ?_) (grw_one _ g 2 c) ?_) (grw_one _ g 3 d) ?_) (grw_one _ g 4 e) ?_) (grw_one _ g 5 f) ?_) (grw_one _ g 6 h) ?_
  all_goals exact fun _ _ => .inl rfl
theorem bel7 {w0 w : World} {N : Nat} (hb : Below N w0 w) (g : Nat) (hg : N ≤ g) (hN : N ≤ w.heap.size) (a b c d e f h : Value) : Below N w0 (((((((w.setCell ⟨g, 0, none⟩ a).setCell ⟨g, 1, none⟩ b).setCell ⟨g, 2, none⟩ c).setCell ⟨g, 3, none⟩ d).setCell ⟨g, 4, none⟩ e).setCell ⟨g, 5, none⟩ f).setCell ⟨g, 6, none⟩ h) :=
  hb.trans (Grow.below (grw7 w g a b c d e f h) hN (fun x hx => by injection hx with hx; omega))
theorem pre_drew {w w' : World} (h : Below w.drew.heap.size w.drew w') : Below w.heap.size w w' := (below_drewN (Below.refl _ _) 1 : Below w.heap.size w w.drew).trans h
/-- the cells of side k -/
theorem PW.seven {w0 w : World} {gs gt : Nat} {p : Int} {x y : SS} {L : List BI} {Kx : List Box} {A0 : Option Addr} {c0 : Nat} {A1 : Option Addr} {c1 : Nat} {B : Option Addr} {d : Nat} {Ks : List Box} {Os : List Row}
    (h : PW w0 w gs gt p x y L Kx A0 c0 A1 c1 B d Ks Os) {k : Nat} (hk : k ≤ 1) :
    w.cell? ⟨gs, k * 7, none⟩ = some (.int .i64 k) ∧ w.cell? ⟨gs, k * 7 + 1, none⟩ = some (.bool (sel k x y).act) ∧ w.cell? ⟨gs, k * 7 + 2, none⟩ = some (.int .i64 (sel k x y).term) ∧ w.cell? ⟨gs, k * 7 + 3, none⟩ = some (.int .i64 (sel k x y).cyc) ∧
      w.cell? ⟨gs, k * 7 + 4, none⟩ = some (.slice (sel k A0 A1) 2 (sel k c0 c1)) ∧ w.cell? ⟨gs, k * 7 + 5, none⟩ = some (.int .i64 (sel k x y).sil) ∧ w.cell? ⟨gs, k * 7 + 6, none⟩ = some (.int .i64 p) := by
  have d0 := h.cellS hk (j := 0) (by omega)
  rw [Nat.add_zero] at d0
  refine ⟨d0, h.cellS hk (j := 1) (by omega), h.cellS hk (j := 2) (by omega), h.cellS hk (j := 3) (by omega), ?_, h.cellS hk (j := 5) (by omega), h.cellS hk (j := 6) (by omega)⟩
  have d4 := h.cellS hk (j := 4) (by omega)
  rw [sel_slice] at d4
  exact d4

/-- side k is put in -/
theorem PW.putS {w0 w : World} {gs gt : Nat} {p : Int} {x y : SS} {L : List BI} {Kx : List Box} {A0 : Option Addr} {c0 : Nat} {A1 : Option Addr} {c1 : Nat} {B : Option Addr} {d : Nat} {Ks : List Box} {Os : List Row}
    (h : PW w0 w gs gt p x y L Kx A0 c0 A1 c1 B d Ks Os) {k : Nat} (hk : k ≤ 1) (z : SS) (A : Option Addr) (c : Nat) (hi : imgR A c z.cyc ∈ Os) :
    PWB w0 (((((((w.setCell ⟨gs, k * 7, none⟩ (.int .i64 k)).setCell ⟨gs, k * 7 + 1, none⟩ (.bool z.act)).setCell ⟨gs, k * 7 + 2, none⟩ (.int .i64 z.term)).setCell ⟨gs, k * 7 + 3, none⟩ (.int .i64 z.cyc)).setCell ⟨gs, k * 7 + 4, none⟩ (.slice A 2 c)).setCell ⟨gs, k * 7 + 5, none⟩ (.int .i64 z.sil)).setCell ⟨gs, k * 7 + 6, none⟩ (.int .i64 p)) gs gt p (pu0 k x z) (pu1 k y z) L Kx B d := by
  have hm := ((((((h.mem.set (i := k * 7) (.int .i64 k)).set (i := k * 7 + 1) (.bool z.act)).set (i := k * 7 + 2) (.int .i64 z.term)).set (i := k * 7 + 3) (.int .i64 z.cyc)).set (i := k * 7 + 4) (.slice A 2 c)).set (i := k * 7 + 5) (.int .i64 z.sil)).set (i := k * 7 + 6) (.int .i64 p)
  rw [sides_set hk] at hm
  have e0 : pu0 k (Value.slice A0 2 c0) (.slice A 2 c) = .slice (pu0 k A0 A) 2 (pu0 k c0 c) := by unfold pu0; split <;> rfl
  have e1 : pu1 k (Value.slice A1 2 c1) (.slice A 2 c) = .slice (pu1 k A1 A) 2 (pu1 k c1 c) := by unfold pu1; split <;> rfl
  rw [e0, e1] at hm
  refine ⟨pu0 k A0 A, pu0 k c0 c, pu1 k A1 A, pu1 k c1 c, Ks, Os, hm, ?_, ?_, h.im, h.kx⟩
  · unfold pu0
    split
    · exact hi
    · exact h.i0
  · unfold pu1
    split
    · exact h.i1
    · exact hi

set_option maxRecDepth 100000 in
set_option maxHeartbeats 6400000 in
theorem hear_any (w0 w : World) (gs gt : Nat) (p : Int) (m k : Nat) (x y : SS) (L : List BI) (Kx : List Box) (B : Option Addr) (d : Nat) (hP : PWB w0 w gs gt p x y L Kx B d) (hk : k ≤ 1) (hf : Fit p m (sel k x y)) (hp : p ≤ 1000) (hm : m ≤ 1000) (i : BI) (hi : i ∈ L) (hbs : i.b.frm ≤ 1 ∧ i.b.term ≤ m ∧ i.b.cyc ≤ m) :
    Calls Try.prog 31 #[.int .i64 k, beatV i.b.frm i.b.term i.b.cyc (.slice i.A 2 i.c), .pointer (some ⟨gs, 0, none⟩)] w fun e w' => e = .returned (.bool true) ∧
      PWB w0 w' gs gt p (pu0 k x (hearQ k (sel k x y) i.b)) (pu1 k y (hearQ k (sel k x y) i.b)) L Kx B d := by
  obtain ⟨A0, c0, A1, c1, Ks, Os, h⟩ := hP
  obtain ⟨ec, hS, hec⟩ := heardU hf hp hm hk hbs
  obtain ⟨d0, d1, d2, d3, d4, d5, d6⟩ := h.seven hk
  have hr := h.rdk k
  have hib := Rd.own (h.mem.own _ (List.mem_cons_of_mem _ (h.im i hi)))
  have him := h.im i hi
  obtain ⟨⟨bf, bt, bc⟩, Ai, ci⟩ := i
  simp only at *
  have H := Lib.hid h
  generalize sel k x y = S at *
  generalize sel k A0 A1 = A at *
  generalize sel k c0 c1 = c at *
  obtain ⟨act, term, cyc, sil⟩ := S
  generalize hearQ k ⟨act, term, cyc, sil⟩ ⟨bf, bt, bc⟩ = Z at *
  obtain ⟨za, zt, zc, zs⟩ := Z
  have hb0 := lt_of_cell d0
  have HR := Lib.hid hr
  have HI := Lib.hid hib
  have HIM := Lib.hid him
  have HS : Hid (heededF [] (⟨k, act, term, cyc, sm cyc, sil, p⟩ : SD (List Int)) 2 bf bt bc (sm bc) 2 = ((⟨k, za, zt, zc, sm zc, zs, p⟩ : SD (List Int)), ec)) := hS
  have HE := Lib.hid hec
  clear hr hS hf hib him hi hec hbs
  have hk0 : (0 : Int) ≤ (k : Int) := by omega
  have hk2 : (k : Int) < 2 := by omega
  generalize hbb : (Obj.cells #[.int .i64 bf, .int .i64 bt, .int .i64 bc, .slice Ai 2 ci] 33) = bb at *
  have hcell : ∀ w', Below (w.alloc bb).heap.size (w.alloc bb) w' → (w'.cell? ⟨gs, k * 7, none⟩ = some (.int .i64 k) ∧ w'.cell? ⟨gs, k * 7 + 1, none⟩ = some (.bool act) ∧ w'.cell? ⟨gs, k * 7 + 2, none⟩ = some (.int .i64 term) ∧ w'.cell? ⟨gs, k * 7 + 3, none⟩ = some (.int .i64 cyc) ∧
      w'.cell? ⟨gs, k * 7 + 4, none⟩ = some (.slice A 2 c) ∧ w'.cell? ⟨gs, k * 7 + 5, none⟩ = some (.int .i64 sil) ∧ w'.cell? ⟨gs, k * 7 + 6, none⟩ = some (.int .i64 p)) ∧ (∀ j, w'.cell? ⟨w.heap.size, j, none⟩ = #[Value.int .i64 bf, .int .i64 bt, .int .i64 bc, .slice Ai 2 ci][j]?) := fun w' hb' => by
    have hh := (below_alloc bb).trans (hb'.mono (by simp))
    refine ⟨⟨(hh.cell hb0).trans d0, (hh.cell hb0).trans d1, (hh.cell hb0).trans d2, (hh.cell hb0).trans d3, (hh.cell hb0).trans d4, (hh.cell hb0).trans d5, (hh.cell hb0).trans d6⟩, fun j => ?_⟩
    rw [hb'.cell (by simp), ← hbb]
    exact (Blk.new w 33 _).cell j
  subst hbb
  have HC := Lib.hid hcell
  have HC2 := Lib.hid (fun w' o (hh : Below _ _ w') => hcell (w'.alloc o) (hh.trans ((below_alloc o).mono hh.size)))
  have hq0 := HC.out (World.drew (w.alloc (.cells #[.int .i64 bf, .int .i64 bt, .int .i64 bc, .slice Ai 2 ci] 33))) (below_drewN (Below.refl _ _) 1)
  have hqB := HC.out (World.drew ((w.alloc (.cells #[.int .i64 bf, .int .i64 bt, .int .i64 bc, .slice Ai 2 ci] 33)).alloc (.cells #[.int .i64 0, .bool false, .int .i64 0, .int .i64 0, .slice none 0 0, .int .i64 0, .int .i64 0] 25))) (below_drewN (below_alloc _) 1)
  have M0 := Lib.hid (h.mem.alloc 33 #[.int .i64 bf, .int .i64 bt, .int .i64 bc, .slice Ai 2 ci])
  have MB := Lib.hid (M0.out.alloc 25 #[.int .i64 0, .bool false, .int .i64 0, .int .i64 0, .slice none 0 0, .int .i64 0, .int .i64 0])
  clear hcell h d0 d1 d2 d3 d4 d5 d6
  have hs2 : ∀ n, (sm n).length = 2 := fun _ => rfl
  go_enter Try.func31, Try.ntmps31
  go_upto_region 1 with fail
  go_region_held3 (fun w' => (w'.cell? ⟨gs, k * 7, none⟩ = some (.int .i64 k) ∧ w'.cell? ⟨gs, k * 7 + 1, none⟩ = some (.bool act) ∧ w'.cell? ⟨gs, k * 7 + 2, none⟩ = some (.int .i64 term) ∧ w'.cell? ⟨gs, k * 7 + 3, none⟩ = some (.int .i64 cyc) ∧
      w'.cell? ⟨gs, k * 7 + 4, none⟩ = some (.slice A 2 c) ∧ w'.cell? ⟨gs, k * 7 + 5, none⟩ = some (.int .i64 sil) ∧ w'.cell? ⟨gs, k * 7 + 6, none⟩ = some (.int .i64 p)) ∧ (∀ j, w'.cell? ⟨w.heap.size, j, none⟩ = #[Value.int .i64 bf, .int .i64 bt, .int .i64 bc, .slice Ai 2 ci][j]?))
    (first | with_reducible exact hq0 | with_reducible exact hqB | with_reducible exact q1 | with_reducible exact q2 | with_reducible exact q3 | with_reducible exact q5 | fail)
    (first
      | (go_at_call 27
         refine (Hear_any k act term cyc A 2 c sil p (sm cyc) bf bt bc Ai 2 ci (sm bc) _ ((HR.out.alloc _).drew) (by omega) ((HI.out.alloc _).drew) (by omega)).mono ?_
         intro e w1 hf1
         rw [HS.out] at hf1
         obtain ⟨A2, c2, rfl, ho, hb⟩ := hf1
         simp only [SD.val, SD.set, hs2] at ho ⊢
         have q1 := HC.out w1 (pre_drew hb)
         have q3 := HC2.out w1 (.cells #[.int .i64 0, .bool false, .int .i64 0, .int .i64 0, .slice none 0 0, .int .i64 0, .int .i64 0] 25) (pre_drew hb)
         have q2 := HC2.out w1 (.cells #[.int .i64 k, .bool za, .int .i64 zt, .int .i64 zc, .slice A2 2 c2, .int .i64 zs, .int .i64 p] 25) (pre_drew hb)
         have M1 := Lib.hid ((M0.out.drew.made hb ho).alloc 25 #[.int .i64 k, .bool za, .int .i64 zt, .int .i64 zc, .slice A2 2 c2, .int .i64 zs, .int .i64 p]))
      | (go_at_call 27
         refine (Hear_any k act term cyc A 2 c sil p (sm cyc) bf bt bc Ai 2 ci (sm bc) _ (((HR.out.alloc _).alloc _).drew) (by omega) (((HI.out.alloc _).alloc _).drew) (by omega)).mono ?_
         intro e w1 hf1
         rw [HS.out] at hf1
         obtain ⟨A2, c2, rfl, ho, hb⟩ := hf1
         simp only [SD.val, SD.set, hs2] at ho ⊢
         have q1 := HC.out w1 ((below_alloc _).trans ((pre_drew hb).mono (by simp)))
         have M1 := Lib.hid (MB.out.drew.made hb ho)
         have q5 := HC.out _ (bel7 ((below_alloc _).trans ((pre_drew hb).mono (by simp))) (w.heap.size + 1) (by simp) (Nat.le_trans (by simp) hb.size) (.int .i64 k) (.bool za) (.int .i64 zt) (.int .i64 zc) (.slice A2 2 c2) (.int .i64 zs) (.int .i64 p))
         have zc0 := M1.out.cellK 0 rfl
         have zf0 := M1.out.frozenK 0 rfl
         simp only [World.size_alloc] at zc0 zf0))
  · clear q1 q2 q3 hq0 hqB HC HC2 M0 MB HS HI HR ho hb
    have M2 := Lib.hid M1.out
    obtain ⟨gx, hgx⟩ : ∃ gx, w1.heap.size = gx := ⟨_, rfl⟩
    rw [hgx] at M2 ⊢
    clear M1 hgx
    generalize World.alloc w1 _ = w2 at M2 ⊢
    have HZ := Lib.hid (M2.out.base)
    have hs7 : Hid (PW w0 w2 gs gt p x y L Kx A0 c0 A1 c1 B d (⟨gx, 25, #[.int .i64 k, .bool za, .int .i64 zt, .int .i64 zc, .slice A2 2 c2, .int .i64 zs, .int .i64 p]⟩ :: ⟨w.heap.size, 33, #[.int .i64 bf, .int .i64 bt, .int .i64 bc, .slice Ai 2 ci]⟩ :: Ks) (imgR A2 c2 zc :: Os)) :=
      ⟨((M2.out.upK 3 rfl).upK 3 rfl).upO 1 rfl, List.mem_cons_of_mem _ H.out.i0, List.mem_cons_of_mem _ H.out.i1, fun i hi => List.mem_cons_of_mem _ (H.out.im i hi), fun b hb => List.mem_cons_of_mem _ (List.mem_cons_of_mem _ (H.out.kx b hb))⟩
    have x0 := M2.out.cellK 0 rfl
    have b0 := M2.out.cellK 1 rfl
    rcases HE.out with ⟨rfl, hz⟩ | hne
    · obtain ⟨rfl, rfl, rfl, rfl⟩ : za = false ∧ zt = bt ∧ zc = bc ∧ zs = 0 := by
        injection hz with h1 h2 h3 h4
        exact ⟨h1, h2, h3, h4⟩
      clear hz HE
      go_wp2_with fail
      refine (equal_any A2 Ai 2 2 c2 ci (sm zc) (sm zc) _ (mem_img M2.out (List.mem_cons_self ..)) (mem_img M2.out (List.mem_cons_of_mem _ (List.mem_cons_of_mem _ HIM.out))) (by unfold maxLen; omega)).mono ?_
      rintro e w3 ⟨rfl, q, rfl⟩
      rw [decide_eq_true rfl]
      have hs8 : Hid (PW w0 (w2.drewN q) gs gt p x y L Kx A0 c0 A1 c1 B d (⟨gx, 25, #[.int .i64 k, .bool false, .int .i64 zt, .int .i64 zc, .slice A2 2 c2, .int .i64 0, .int .i64 p]⟩ :: ⟨w.heap.size, 33, #[.int .i64 bf, .int .i64 zt, .int .i64 zc, .slice Ai 2 ci]⟩ :: Ks) (imgR A2 c2 zc :: Os)) := ⟨hs7.out.mem.drewN q, hs7.out.i0, hs7.out.i1, hs7.out.im, hs7.out.kx⟩
      clear x0 b0 M2 hs7
      generalize World.drewN _ q = w4 at hs8 ⊢
      have x0 := hs8.out.mem.cellK 2 rfl
      obtain ⟨d0, d1, d2, d3, d4, d5, d6⟩ := hs8.out.seven hk
      have fz := hs8.out.mem.frozenK 0 rfl
      go_wp2
      go_ret
      exact ⟨rfl, hs8.out.putS hk ⟨false, zt, zc, 0⟩ A2 c2 (List.mem_cons_self ..)⟩
    · have hne' : (ec == 0) = false := beq_eq_false_iff_ne.2 hne
      clear b0 M2 HE
      obtain ⟨d0, d1, d2, d3, d4, d5, d6⟩ := hs7.out.seven hk
      have fz := hs7.out.mem.frozenK 0 rfl
      go_wp2
      go_ret
      exact ⟨rfl, hs7.out.putS hk ⟨za, zt, zc, zs⟩ A2 c2 (List.mem_cons_self ..)⟩
  · have M2 := Lib.hid (((((((M1.out.set (i := 0) (.int .i64 k)).set (i := 1) (.bool za)).set (i := 2) (.int .i64 zt)).set (i := 3) (.int .i64 zc)).set (i := 4) (.slice A2 2 c2)).set (i := 5) (.int .i64 zs)).set (i := 6) (.int .i64 p))
    simp only [List.setIfInBounds_toArray, List.set_cons_zero, List.set_cons_succ, World.size_alloc] at M2
    clear q1 q5 zc0 zf0 hq0 hqB HC HC2 M0 MB HS HI HR ho hb M1
    obtain ⟨gx, hgx⟩ : ∃ gx, w.heap.size + 1 = gx := ⟨_, rfl⟩
    rw [hgx] at M2 ⊢
    clear hgx
    generalize World.setCell (World.setCell (World.setCell (World.setCell (World.setCell (World.setCell (World.setCell w1 _ _) _ _) _ _) _ _) _ _) _ _) _ _ = w2 at M2 ⊢
    have HZ := Lib.hid (M2.out.base)
    have hs7 : Hid (PW w0 w2 gs gt p x y L Kx A0 c0 A1 c1 B d (⟨gx, 25, #[.int .i64 k, .bool za, .int .i64 zt, .int .i64 zc, .slice A2 2 c2, .int .i64 zs, .int .i64 p]⟩ :: ⟨w.heap.size, 33, #[.int .i64 bf, .int .i64 bt, .int .i64 bc, .slice Ai 2 ci]⟩ :: Ks) (imgR A2 c2 zc :: Os)) :=
      ⟨((M2.out.upK 3 rfl).upK 3 rfl).upO 1 rfl, List.mem_cons_of_mem _ H.out.i0, List.mem_cons_of_mem _ H.out.i1, fun i hi => List.mem_cons_of_mem _ (H.out.im i hi), fun b hb => List.mem_cons_of_mem _ (List.mem_cons_of_mem _ (H.out.kx b hb))⟩
    have x0 := M2.out.cellK 0 rfl
    have b0 := M2.out.cellK 1 rfl
    rcases HE.out with ⟨rfl, hz⟩ | hne
    · obtain ⟨rfl, rfl, rfl, rfl⟩ : za = false ∧ zt = bt ∧ zc = bc ∧ zs = 0 := by
        injection hz with h1 h2 h3 h4
        exact ⟨h1, h2, h3, h4⟩
      clear hz HE
      go_wp2_with fail
      refine (equal_any A2 Ai 2 2 c2 ci (sm zc) (sm zc) _ (mem_img M2.out (List.mem_cons_self ..)) (mem_img M2.out (List.mem_cons_of_mem _ (List.mem_cons_of_mem _ HIM.out))) (by unfold maxLen; omega)).mono ?_
      rintro e w3 ⟨rfl, q, rfl⟩
      rw [decide_eq_true rfl]
      have hs8 : Hid (PW w0 (w2.drewN q) gs gt p x y L Kx A0 c0 A1 c1 B d (⟨gx, 25, #[.int .i64 k, .bool false, .int .i64 zt, .int .i64 zc, .slice A2 2 c2, .int .i64 0, .int .i64 p]⟩ :: ⟨w.heap.size, 33, #[.int .i64 bf, .int .i64 zt, .int .i64 zc, .slice Ai 2 ci]⟩ :: Ks) (imgR A2 c2 zc :: Os)) := ⟨hs7.out.mem.drewN q, hs7.out.i0, hs7.out.i1, hs7.out.im, hs7.out.kx⟩
      clear x0 b0 M2 hs7
      generalize World.drewN _ q = w4 at hs8 ⊢
      have x0 := hs8.out.mem.cellK 2 rfl
      obtain ⟨d0, d1, d2, d3, d4, d5, d6⟩ := hs8.out.seven hk
      have fz := hs8.out.mem.frozenK 0 rfl
      go_wp2
      go_ret
      exact ⟨rfl, hs8.out.putS hk ⟨false, zt, zc, 0⟩ A2 c2 (List.mem_cons_self ..)⟩
    · have hne' : (ec == 0) = false := beq_eq_false_iff_ne.2 hne
      clear b0 M2 HE
      obtain ⟨d0, d1, d2, d3, d4, d5, d6⟩ := hs7.out.seven hk
      have fz := hs7.out.mem.frozenK 0 rfl
      go_wp2
      go_ret
      exact ⟨rfl, hs7.out.putS hk ⟨za, zt, zc, zs⟩ A2 c2 (List.mem_cons_self ..)⟩
end Go.Proofs.Ytlccpnloankloaa.Pair
