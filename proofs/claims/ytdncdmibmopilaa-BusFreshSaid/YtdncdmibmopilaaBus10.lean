/-
  bus's open: a link of its own where it may be one, else nothing. Conditions: the words read, within the reach.
-/
import Derived.Test.YtdncdmibmopilaaBus9
import Derived.Deep.RegionWith
import Derived.Deep.DeepCutAuto
namespace Go.Proofs.Ytdncdmibmopilaa.Bus
open Go.RowKit Go.Proofs.Ytdncdmibmopilaa.W Go.Proofs.Ytdncdmibmopilaa.Ints

set_option maxHeartbeats 3200000 in
theorem open_no (st wt : Int) (A : Option Addr) (n c : Nat) (B : Option Addr) (m d : Nat) (seq age : Int) (fresh : Bool) (xs ys : List Int) (w : World)
    (hx : Rd w 1 A n (ints xs)) (hn : n * 8 ≤ 140737488351232) (hy : Rd w 1 B m (ints ys)) (hm : m * 8 ≤ 140737488351232) (hw : wt ≤ 9223372036854775807) (hw' : -9223372036854775808 ≤ wt)
    (hno : ((linkedF st wt xs).2 != 0) = true ∨ (((linkedF st wt xs).2 != 0) = false ∧ ((speltE ys != 0) = true ∨ (speltE ys != 0) = false ∧ (((m : Int) != (n : Int)) = true ∨ (((m : Int) != (n : Int)) = false ∧ 1 ≤ wt ∧
      ((decide (0 ≤ seq) && decide (seq ≤ 255)) = false ∨ (decide (0 ≤ seq) && decide (seq ≤ 255)) = true ∧ ((decide (0 ≤ age) && decide (age ≤ wt - 1)) = false ∨ (decide (0 ≤ age) && decide (age ≤ wt - 1)) = true ∧ fresh = false ∧ ((age != 0) = true ∨ (age != 0) = false ∧ decide (ys = xs) = false)))))))) :
    Calls Try.prog 43 #[linkV st wt (.slice A n c) (.slice B m d) seq age fresh] w fun e w' => e = .returned (.tuple #[.pointer none, .bool false]) ∧ Below w.heap.size w w' := by
  have HX := Lib.hid hx
  have HY := Lib.hid hy
  clear hx hy
  generalize hF : linkedF st wt xs = F at hno
  generalize hE : speltE ys = E at hno
  have HF := Lib.hid hF
  have HE := Lib.hid hE
  clear hF hE
  generalize hQ : decide (ys = xs) = Q at hno
  generalize hS : (decide (0 ≤ seq) && decide (seq ≤ 255)) = S at hno
  generalize hG : (decide (0 ≤ age) && decide (age ≤ wt - 1)) = G at hno
  have HQ := Lib.hid hQ
  have HS := Lib.hid hS
  have HG := Lib.hid hG
  clear hQ hS hG
  rcases hno with h1 | ⟨h1, h2 | ⟨h2, h3 | ⟨h3, h8, h4 | ⟨h4, h5 | ⟨h5, hf, h6 | ⟨h6, h7⟩⟩⟩⟩⟩⟩
  all_goals (try subst hf)
  all_goals (try subst h4)
  all_goals (try subst h5)
  all_goals (try subst h7)
  all_goals go_enter Try.func43, Try.ntmps43
  all_goals go_wp2_with fail
  all_goals refine (Start_any st wt A n c xs _ (HX.out.alloc _) hn hw).mono ?_
  all_goals intro e w1 hf
  all_goals rw [HF.out] at hf
  all_goals obtain ⟨A1, e1, A2, e2, rfl, hb⟩ := fresh_fault hf
  all_goals clear hf
  all_goals obtain ⟨k1, hb', z1⟩ := call1 hb
  all_goals have c1 := k1.cell
  all_goals have B1 := Lib.hid hb'
  all_goals have K1 := Lib.hid k1
  all_goals clear k1 hb hb'
  all_goals have HY1 := Lib.hid ((HY.out.below B1.out))
  all_goals have HX1 := Lib.hid ((HX.out.below B1.out))
  all_goals go_wp2_with (go_at_call 33; refine (words_any B m d ys _ (HY1.out.alloc _) (by unfold maxLen; omega)).mono ?_; rintro e w' ⟨rfl, rfl⟩; rw [HE.out])
  all_goals go_wp2_with (first | (go_at_call 32; refine (within_any _ _ _).mono ?_; rintro e w' ⟨rfl, rfl⟩; first | rw [HS.out] | rw [HG.out]) | (go_at_call 48; refine (Equal_any B A m n d c ys xs _ (HY1.out.alloc _) (HX1.out.alloc _) (by unfold maxLen; omega)).mono ?_; rintro e w' ⟨rfl, q, rfl⟩; rw [HQ.out]))
  all_goals go_ret2
  all_goals first | exact ⟨rfl, B1.out.alloc (by omega) _⟩ | exact ⟨rfl, below_drewN (B1.out.alloc (by omega) _) _⟩

theorem Blk.at {w : World} {t : TypeId} {cs : Array Value} {g : Nat} (h : g = w.heap.size) : Blk (w.alloc (.cells cs t)) g t cs := h ▸ Blk.new w t cs
theorem rows_two {w w2 wa wb : World} {A B : Option Addr} {c d n m : Nat} {xs ys : List Value} (hB2 : Below w.heap.size w w2) (hba : Below w2.heap.size w2 wa) (hbb : Below wa.heap.size wa wb)
    (o1 : wa.ownsRow w2.heap.size 3 1 (.slice A n c) n xs) (o2 : wb.ownsRow wa.heap.size 3 1 (.slice B m d) m ys) :
    (w2.heap.size ≤ wa.heap.size ∧ wa.heap.size ≤ wb.heap.size) ∧ Own.ok ⟨w2.heap.size, wa.heap.size, 3, 1, A, n, c, xs⟩ wb ∧ Own.ok ⟨wa.heap.size, wb.heap.size, 3, 1, B, m, d, ys⟩ wb ∧ Below w.heap.size w wb := by
  have h1 := hba.size
  have h2 := hbb.size
  exact ⟨⟨h1, h2⟩, ok_below (Own.mk' o1 (Nat.le_refl _)) hbb, Own.mk' o2 (Nat.le_refl _), hB2.trans ((hba.trans (hbb.mono h1)).mono hB2.size)⟩
theorem rows_ab {w w2 wa wb : World} {A B : Option Addr} {c d n : Nat} {F : LD} (h1 : F.safe.length = n) (h2 : F.words.length = n) (hB2 : Below w.heap.size w w2) (hba : Below w2.heap.size w2.drew wa) (hbb : Below wa.heap.size wa wb)
    (o1 : wa.ownsRow w2.heap.size 3 1 (.slice A n c) n (ints F.safe)) (o2 : wb.ownsRow wa.heap.size 3 1 (.slice B n d) n (ints F.words)) : RowsAt w2.heap.size w wb A B c d F := by
  subst h1
  have hba' : Below w2.heap.size w2 wa := (below_drewN (Below.refl _ _) 1).trans hba
  obtain ⟨hm, k1, k2, hb⟩ := rows_two hB2 hba' hbb o1 o2
  exact ⟨_, _, _, _, ⟨Nat.le_refl _, hm.1, hm.1, hm.2, hm.2, Nat.le_refl _, .inl (Nat.le_refl _)⟩, k1, h2 ▸ k2, hb⟩
theorem rows_ba {w w2 wa wb : World} {A B : Option Addr} {c d n : Nat} {F : LD} (h1 : F.safe.length = n) (h2 : F.words.length = n) (hB2 : Below w.heap.size w w2) (hba : Below w2.heap.size w2.drew wa) (hbb : Below wa.heap.size wa wb)
    (o1 : wa.ownsRow w2.heap.size 3 1 (.slice B n d) n (ints F.words)) (o2 : wb.ownsRow wa.heap.size 3 1 (.slice A n c) n (ints F.safe)) : RowsAt w2.heap.size w wb A B c d F := by
  subst h1
  have hba' : Below w2.heap.size w2 wa := (below_drewN (Below.refl _ _) 1).trans hba
  obtain ⟨hm, k1, k2, hb⟩ := rows_two hB2 hba' hbb o1 o2
  exact ⟨_, _, _, _, ⟨hm.1, Nat.le_refl _, hm.2, hm.1, Nat.le_refl _, hm.2, .inr (Nat.le_refl _)⟩, k2, h2 ▸ k1, hb⟩
theorem below_step {w2 W w' : World} (h : Hid (Below w2.heap.size w2 W)) (hb : Below W.heap.size W w') : Below w2.heap.size w2 w' := h.out.trans (hb.mono h.out.size)

set_option maxHeartbeats 3200000 in
theorem open_yes (st wt : Int) (A : Option Addr) (n c : Nat) (B : Option Addr) (d : Nat) (seq age : Int) (fresh : Bool) (xs ys : List Int) (w : World)
    (hx : Rd w 1 A n (ints xs)) (hn : n * 8 ≤ 140737488351232) (hy : Rd w 1 B n (ints ys)) (hw : wt ≤ 9223372036854775807) 
    (h1 : ((linkedF st wt xs).2 != 0) = false) (h2 : (speltE ys != 0) = false) (h8 : 1 ≤ wt) (h4 : (decide (0 ≤ seq) && decide (seq ≤ 255)) = true) (h5 : (decide (0 ≤ age) && decide (age ≤ wt - 1)) = true)
    (h6 : fresh = true ∨ fresh = false ∧ (age != 0) = false ∧ decide (ys = xs) = true) :
    Calls Try.prog 43 #[linkV st wt (.slice A n c) (.slice B n d) seq age fresh] w fun e w' => ∃ g A' c' B' d', e = .returned (.tuple #[.pointer (some ⟨g, 0, none⟩), .bool true]) ∧
      Blk w' g 72 (linkC st wt (.slice A' n c') (.slice B' n d') seq age fresh) ∧ ∃ base, w.heap.size ≤ base ∧ base ≤ g ∧ RowsIn base g w w' A' B' c' d' ⟨st, wt, xs, ys, seq, age, fresh⟩ := by
  have HLX := Lib.hid (rd_len hx)
  have HLY := Lib.hid (rd_len hy)
  have HX := Lib.hid hx
  have HY := Lib.hid hy
  clear hx hy
  generalize hF : linkedF st wt xs = F at h1
  generalize hE : speltE ys = E at h2
  have HF := Lib.hid hF
  have HE := Lib.hid hE
  have HS := Lib.hid h4
  have HG := Lib.hid h5
  clear hF hE h4 h5
  rcases h6 with rfl | ⟨rfl, h6, h7⟩
  all_goals (try have HQ := Lib.hid h7)
  all_goals (try clear h7)
  all_goals go_enter Try.func43, Try.ntmps43
  all_goals go_wp2_with fail
  all_goals refine (Start_any st wt A n c xs _ (HX.out.alloc _) hn hw).mono ?_
  all_goals intro e w1 hf
  all_goals rw [HF.out] at hf
  all_goals obtain ⟨A1, e1, A2, e2, rfl, hb⟩ := fresh_fault hf
  all_goals clear hf
  all_goals obtain ⟨k1, hb', z1⟩ := call1 hb
  all_goals have c1 := k1.cell
  all_goals have B1 := Lib.hid hb'
  all_goals have K1 := Lib.hid k1
  all_goals clear k1 hb hb'
  all_goals have HY1 := Lib.hid ((HY.out.below B1.out))
  all_goals have HX1 := Lib.hid ((HX.out.below B1.out))
  all_goals go_wp2_with (go_at_call 33; refine (words_any B n d ys _ (HY1.out.alloc _) (by unfold maxLen; omega)).mono ?_; rintro e w' ⟨rfl, rfl⟩; rw [HE.out])
  all_goals go_wp2_with (first | (go_at_call 32; refine (within_any _ _ _).mono ?_; rintro e w' ⟨rfl, rfl⟩; first | rw [HS.out] | rw [HG.out]) | (go_at_call 48; refine (Equal_any B A n n d c ys xs _ (HY1.out.alloc _) (HX1.out.alloc _) (by unfold maxLen; omega)).mono ?_; rintro e w' ⟨rfl, q, rfl⟩; rw [HQ.out]))
  all_goals first | (have hq := q; clear hq; generalize hw2 : World.drewN (w1.alloc _) q = w2) | generalize hw2 : w1.alloc _ = w2
  all_goals first | (have K2 : Blk w2 w.heap.size 24 (linkC st wt (.slice A n c) (.slice B n d) seq age true) := (by rw [← hw2]; first | exact K1.out.alloc _ | exact (K1.out.alloc _).drewN _)) | (have K2 : Blk w2 w.heap.size 24 (linkC st wt (.slice A n c) (.slice B n d) seq age false) := (by rw [← hw2]; first | exact K1.out.alloc _ | exact (K1.out.alloc _).drewN _))
  all_goals have B2 : Hid (Below w.heap.size w w2) := by rw [← hw2]; first | exact B1.out.alloc (by omega) _ | exact below_drewN (B1.out.alloc (by omega) _) _
  all_goals have l2 := K2.lt
  all_goals have g2 := K2.cell 2
  all_goals have g3 := K2.cell 3
  all_goals have f2 := K2.frozen 2
  all_goals have f3 := K2.frozen 3
  all_goals simp at g2 g3
  all_goals have HK := Lib.hid K2
  all_goals have HY2 := Lib.hid ((HY.out.below B2.out))
  all_goals have HX2 := Lib.hid ((HX.out.below B2.out))
  all_goals clear hw2 c1 B1 K1 HX1 HY1 K2 z1
  all_goals have TR : Hid (Below w2.heap.size w2 w2.drew) := below_drewN (Below.refl _ _) 1
  all_goals
    go_region_with (first | (go_at_call_of 34 (Value.slice A n c); refine (Clone_any A n c xs _ ?_ hn).mono ?_; (exact HX2.out.below TR.out); rintro e w' ⟨A', c', rfl, hoa, hba⟩; (have TR := Lib.hid (below_step TR hba)); (have q1 := (HK.out.below TR.out).cell); (have q2 := (HK.out.below TR.out).frozen); (have HOA := Lib.hid hoa); (have HBA := Lib.hid hba); (have ZA := hba.size); clear hoa hba) | (go_at_call_of 34 (Value.slice B n d); refine (Clone_any B n d ys _ ?_ hn).mono ?_; (exact HY2.out.below TR.out); rintro e w' ⟨B', d', rfl, hob, hbb⟩; (have TR := Lib.hid (below_step TR hbb)); (have q1 := (HK.out.below TR.out).cell); (have q2 := (HK.out.below TR.out).frozen); (have HOB := Lib.hid hob); (have HBB := Lib.hid hbb); (have ZB := hbb.size); clear hob hbb))
  all_goals (first | have HR := Lib.hid (rows_ab (F := ⟨st, wt, xs, ys, seq, age, true⟩) HLX.out HLY.out B2.out HBA.out HBB.out HOA.out HOB.out) | have HR := Lib.hid (rows_ba (F := ⟨st, wt, xs, ys, seq, age, true⟩) HLX.out HLY.out B2.out HBB.out HBA.out HOB.out HOA.out))
  all_goals clear HOA HOB HBA HBB
  all_goals go_wp2
  all_goals go_ret2
  all_goals have hsz := TR.out.size
  all_goals refine ⟨_, A', c', B', d', rfl, Blk.at (by simp), w2.heap.size, Nat.le_of_lt l2, hsz, ?_⟩
  all_goals refine RowsIn.alloc ?_ _
  all_goals repeat' (first | (with_reducible exact HR.out.in) | (with_reducible refine RowsIn.set ?_ ?_ ?_ _; rotate_left; (simp <;> omega); (simp <;> omega)))
  all_goals exact HR.out.in

theorem linked_ok {st wt : Int} {xs : List Int} (h : (linkedF st wt xs).2 = 0) : 1 ≤ wt := by
  unfold linkedF at h
  split at h
  · omega
  · simp at h
/-- which link bus opens -/
theorem open_any (st wt : Int) (A : Option Addr) (n c : Nat) (B : Option Addr) (m d : Nat) (seq age : Int) (fresh : Bool) (xs ys : List Int) (w : World)
    (hx : Rd w 1 A n (ints xs)) (hn : n * 8 ≤ 140737488351232) (hy : Rd w 1 B m (ints ys)) (hm : m * 8 ≤ 140737488351232) (hw : wt ≤ 9223372036854775807) (hw' : -9223372036854775808 ≤ wt) :
    Calls Try.prog 43 #[linkV st wt (.slice A n c) (.slice B m d) seq age fresh] w fun e w' =>
      (couldB st wt xs ys seq age fresh = false ∧ e = .returned (.tuple #[.pointer none, .bool false]) ∧ Below w.heap.size w w') ∨
      (couldB st wt xs ys seq age fresh = true ∧ ∃ g A' c' B' d', e = .returned (.tuple #[.pointer (some ⟨g, 0, none⟩), .bool true]) ∧
        Blk w' g 72 (linkC st wt (.slice A' n c') (.slice B' n d') seq age fresh) ∧ ∃ base, w.heap.size ≤ base ∧ base ≤ g ∧ RowsIn base g w w' A' B' c' d' ⟨st, wt, xs, ys, seq, age, fresh⟩) := by
  have e1 := rd_len hx
  have e2 := rd_len hy
  by_cases h : couldB st wt xs ys seq age fresh = true
  · simp only [couldB, Bool.and_eq_true, beq_iff_eq, decide_eq_true_eq, Bool.or_eq_true] at h
    obtain ⟨h1, h2, h3, h4, h5, h6, h7, h8⟩ := h
    have h9 := linked_ok h1
    obtain rfl : m = n := by omega
    refine (open_yes st wt A m c B d seq age fresh xs ys w hx hn hy hw (by simp [h1]) (by simp [h2]) h9 (by simp [h4, h5]) (by simp [h6]; omega) ?_).mono ?_
    · rcases h8 with h8 | ⟨h8, h10⟩
      · exact .inl h8
      · cases fresh
        · exact .inr ⟨rfl, by simp [h8], by simp [h10]⟩
        · exact .inl rfl
    · rintro e w' h'
      refine .inr ⟨?_, h'⟩
      simp only [couldB, Bool.and_eq_true, beq_iff_eq, decide_eq_true_eq, Bool.or_eq_true]
      exact ⟨h1, h2, h3, h4, h5, h6, h7, h8⟩
  · refine (open_no st wt A n c B m d seq age fresh xs ys w hx hn hy hm hw hw' ?_).mono fun e w' h' => .inl ⟨by simpa using h, h'⟩
    by_cases h1 : (linkedF st wt xs).2 = 0
    · refine .inr ⟨by simp [h1], ?_⟩
      have h9 := linked_ok h1
      by_cases h2 : speltE ys = 0
      · refine .inr ⟨by simp [h2], ?_⟩
        by_cases h3 : m = n
        · refine .inr ⟨by simp [h3], h9, ?_⟩
          by_cases h4 : 0 ≤ seq ∧ seq ≤ 255
          · refine .inr ⟨by simp [h4], ?_⟩
            by_cases h5 : 0 ≤ age ∧ age ≤ wt - 1
            · refine .inr ⟨by simp [h5], ?_⟩
              have h7 : age < wt := by omega
              simp [couldB, h1, h2, h3, h4, h5, h7, e1, e2] at h
              obtain ⟨hf, h8⟩ := h
              refine ⟨hf, ?_⟩
              by_cases h10 : age = 0
              · exact .inr ⟨by simp [h10], by simpa using h8 h10⟩
              · exact .inl (by simp [h10])
            · exact .inl (by simp; omega)
          · exact .inl (by simp; omega)
        · exact .inl (by simp; omega)
      · exact .inl (by simp [h2])
    · exact .inl (by simp [h1])
end Go.Proofs.Ytdncdmibmopilaa.Bus
