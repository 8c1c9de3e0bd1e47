/-
  Contracts of pair's Wait, Done, Hear: what each answers; the side that comes back has an image of its own. Conditions: the images read, and are within the reach.
-/
import Derived.Test.YtlccpnloankloaaPair7
namespace Go.Proofs.Ytlccpnloankloaa.Pair
open Go.RowKit Go.Proofs.Ytlccpnloankloaa.W Go.Proofs.Ytlccpnloankloaa.Ints

theorem FreshS.call2 {w w' : World} {t1 t2 : TypeId} {c1 c2 : Array Value} {e : Ending} {F : SD (List Int) × Int} (h : FreshS ((w.alloc (.cells c1 t1)).alloc (.cells c2 t2)) w' e F) :
    ∃ A d, e = .returned (.tuple #[sideV F.1.me F.1.act F.1.term F.1.cyc (.slice A F.1.img.length d) F.1.sil F.1.pat, .int .i64 F.2]) ∧ w'.ownsRow (w.heap.size + 2) 3 1 (.slice A F.1.img.length d) F.1.img.length (ints F.1.img) ∧
      Blk w' w.heap.size t1 c1 ∧ Blk w' (w.heap.size + 1) t2 c2 ∧ Below w.heap.size w w' ∧ w.heap.size < w'.heap.size ∧ w.heap.size + 1 < w'.heap.size := by
  obtain ⟨A, d, he, ho, hb⟩ := h
  exact ⟨A, d, he, own_lift ho (by simp), W.call2 hb⟩
theorem FreshS.call3 {w w' : World} {t1 t2 t3 : TypeId} {c1 c2 c3 : Array Value} {e : Ending} {F : SD (List Int) × Int} (h : FreshS (((w.alloc (.cells c1 t1)).alloc (.cells c2 t2)).alloc (.cells c3 t3)) w' e F) :
    ∃ A d, e = .returned (.tuple #[sideV F.1.me F.1.act F.1.term F.1.cyc (.slice A F.1.img.length d) F.1.sil F.1.pat, .int .i64 F.2]) ∧ w'.ownsRow (w.heap.size + 3) 3 1 (.slice A F.1.img.length d) F.1.img.length (ints F.1.img) ∧
      Blk w' w.heap.size t1 c1 ∧ Blk w' (w.heap.size + 1) t2 c2 ∧ Blk w' (w.heap.size + 2) t3 c3 ∧ Below w.heap.size w w' ∧ w.heap.size < w'.heap.size ∧ w.heap.size + 1 < w'.heap.size ∧ w.heap.size + 2 < w'.heap.size := by
  obtain ⟨A, d, he, ho, hb⟩ := h
  exact ⟨A, d, he, own_lift ho (by simp), W.call3 hb⟩


set_option maxHeartbeats 1600000 in
theorem withAll_Wait (me : Int) (act : Bool) (term cyc : Int) (A : Option Addr) (n c : Nat) (sil pat : Int) (zs : List Int) (w : World) (hr : Rd w 1 A n (ints zs)) (hn : n * 8 ≤ 140737488351232) :
    Calls Try.prog 38 #[sideV me act term cyc (.slice A n c) sil pat, .func (.func 41) #[] #[]] w fun e w' => FreshS w w' e (waitedF [] ⟨me, act, term, cyc, zs, sil, pat⟩ n) := by
  cases hok : standB me act term cyc n sil pat
  · rw [show waitedF [] ⟨me, act, term, cyc, zs, sil, pat⟩ n = (zeroS [], 15) from by simp [waitedF, SD.ok, hok]]
    exact with_Wait_bad me act term cyc A n c sil pat w hok
  · have hs := step_Wait w me act term cyc A n c sil pat hok
    rw [show waitedF [] ⟨me, act, term, cyc, zs, sil, pat⟩ n = waitS ⟨me, act, term, cyc, zs, sil, pat⟩ from by simp [waitS, waitedF, SD.ok, hok]]
    cases act
    · by_cases h1 : sil + 1 < pat
      · simp only [waitS, Bool.false_eq_true, if_false, h1, if_true] at hs ⊢
        exact with_Wait_ok me false term cyc A n c sil pat me false term cyc A n c (sil + 1) pat zs w hok hr hn hs
      · by_cases h2 : term = 1000000
        · simp only [waitS, Bool.false_eq_true, if_false, h1, h2, if_true] at hs ⊢
          subst h2
          exact with_Wait_err me false 1000000 cyc A n c sil pat 14 zs w hok hr hn (by decide) hs
        · simp only [waitS, Bool.false_eq_true, if_false, h1, h2] at hs ⊢
          exact with_Wait_ok me false term cyc A n c sil pat me true (term + 1) cyc A n c 0 pat zs w hok hr hn hs
    · simp only [waitS, if_true] at hs ⊢
      exact with_Wait_ok me true term cyc A n c sil pat me true term cyc A n c sil pat zs w hok hr hn hs


set_option maxHeartbeats 1600000 in
theorem Wait_any (me : Int) (act : Bool) (term cyc : Int) (A : Option Addr) (n c : Nat) (sil pat : Int) (zs : List Int) (w : World) (hr : Rd w 1 A n (ints zs)) (hn : n * 8 ≤ 140737488351232) :
    Calls Try.prog 24 #[sideV me act term cyc (.slice A n c) sil pat] w fun e w' => FreshS w w' e (waitedF [] ⟨me, act, term, cyc, zs, sil, pat⟩ n) := by
  generalize hF : waitedF [] ⟨me, act, term, cyc, zs, sil, pat⟩ n = F
  have HF := Lib.hid hF
  have HR := Lib.hid hr
  clear hF hr
  go_enter Try.func24, Try.ntmps24
  go_wp2_with (go_at_call 38; refine (withAll_Wait me act term cyc A n c sil pat zs _ ((HR.out.alloc _).alloc _) hn).mono ?_; intro e w' hf; rw [HF.out] at hf; obtain ⟨A1, d1, rfl, ho, k1, k2, hb, hz1, hz2⟩ := FreshS.call2 hf; have c2 := k2.cell; have f2 := k2.frozen; have HO := Lib.hid ho; have HB := Lib.hid hb; clear k1 k2 hb ho hf)
  refine bodyPost_ret (v := .tuple #[(F.1.set (Value.slice A1 F.1.img.length d1)).val, .int .i64 F.2]) ?_ rfl ?_
  · simp [results, Try.results24, go_sem, SD.set, SD.val, c2]
  · refine ⟨A1, d1, rfl, ?_, ?_⟩
    · refine own_lift (b := w.heap.size + 2) ?_ (by omega)
      repeat' (first | (with_reducible exact HO.out) | (with_reducible refine ownsRow_setCell_below ?_ ?_ _; rotate_left; (simp <;> omega)))
    · repeat' (first | (with_reducible exact HB.out) | (with_reducible exact Below.refl _ _) | (with_reducible refine Below.setCell ?_ ?_ _; rotate_left; (simp <;> omega)) | (with_reducible refine Below.alloc ?_ ?_ _; rotate_left; (simp <;> omega)))


set_option maxHeartbeats 1600000 in
theorem withAll_Done (q : Nat) (me : Int) (act : Bool) (term cyc : Int) (A : Option Addr) (n c : Nat) (sil pat : Int) (zs : List Int) (B : Option Addr) (m d : Nat) (ys : List Int) (w : World) (hr : Rd w 1 A n (ints zs)) (hn : n * 8 ≤ 140737488351232) (hry : Rd w 1 B m (ints ys)) (hm : m * 8 ≤ 140737488351232) (hq : Blk w q 23 #[.slice B m d]) :
    Calls Try.prog 38 #[sideV me act term cyc (.slice A n c) sil pat, .func (.func 40) #[] #[.pointer (some ⟨q, 0, none⟩)]] w fun e w' => FreshS w w' e (cycledF [] ⟨me, act, term, cyc, zs, sil, pat⟩ n ys m) := by
  cases hok : standB me act term cyc n sil pat
  · rw [show cycledF [] ⟨me, act, term, cyc, zs, sil, pat⟩ n ys m = (zeroS [], 15) from by simp [cycledF, SD.ok, hok]]
    exact with_Done_bad q me act term cyc A n c sil pat w hok
  · have hs := step_Done w q me act term cyc A n c sil pat B m d hok hq
    rw [show cycledF [] ⟨me, act, term, cyc, zs, sil, pat⟩ n ys m = doneS ⟨me, act, term, cyc, zs, sil, pat⟩ ys m from by simp [doneS, cycledF, SD.ok, hok]]
    cases act
    · simp only [doneS, Bool.false_eq_true, if_false] at hs ⊢
      exact with_Done_err q me false term cyc A n c sil pat 18 zs w hok hr hn (by decide) hs
    · by_cases h1 : m ≤ 20000
      · by_cases h2 : cyc = 999999999
        · simp only [doneS, if_true, h1, h2] at hs ⊢
          subst h2
          exact with_Done_err q me true term 999999999 A n c sil pat 14 zs w hok hr hn (by decide) hs
        · simp only [doneS, if_true, if_false, h1, h2] at hs ⊢
          exact with_Done_ok q me true term cyc A n c sil pat me true term (cyc + 1) B m d sil pat ys w hok hry hm hs
      · simp only [doneS, if_true, if_false, h1] at hs ⊢
        exact with_Done_err q me true term cyc A n c sil pat 4 zs w hok hr hn (by decide) hs


set_option maxHeartbeats 1600000 in
theorem Done_any (me : Int) (act : Bool) (term cyc : Int) (A : Option Addr) (n c : Nat) (sil pat : Int) (zs : List Int) (B : Option Addr) (m d : Nat) (ys : List Int) (w : World) (hr : Rd w 1 A n (ints zs)) (hn : n * 8 ≤ 140737488351232) (hry : Rd w 1 B m (ints ys)) (hm : m * 8 ≤ 140737488351232) :
    Calls Try.prog 21 #[sideV me act term cyc (.slice A n c) sil pat, .slice B m d] w fun e w' => FreshS w w' e (cycledF [] ⟨me, act, term, cyc, zs, sil, pat⟩ n ys m) := by
  generalize hF : cycledF [] ⟨me, act, term, cyc, zs, sil, pat⟩ n ys m = F
  have HF := Lib.hid hF
  have HR := Lib.hid hr
  have HRY := Lib.hid hry
  clear hry
  clear hF hr
  go_enter Try.func21, Try.ntmps21
  go_wp2_with (go_at_call 38; refine (withAll_Done (w.heap.size + 1) me act term cyc A n c sil pat zs B m d ys _ (((HR.out.alloc _).alloc _).alloc _) hn (((HRY.out.alloc _).alloc _).alloc _) hm (Blk.alloc (by simpa only [World.size_alloc] using Blk.new (w.alloc (.cells (sideC me act term cyc (.slice A n c) sil pat) 25)) 23 #[.slice B m d]) _)).mono ?_; intro e w' hf; rw [HF.out] at hf; obtain ⟨A1, d1, rfl, ho, k1, k2, k3, hb, hz1, hz2, hz3⟩ := FreshS.call3 hf; have c3 := k3.cell; have f3 := k3.frozen; have HO := Lib.hid ho; have HB := Lib.hid hb; clear k1 k2 k3 hb ho hf)
  refine bodyPost_ret (v := .tuple #[(F.1.set (Value.slice A1 F.1.img.length d1)).val, .int .i64 F.2]) ?_ rfl ?_
  · simp [results, Try.results21, go_sem, SD.set, SD.val, c3]
  · refine ⟨A1, d1, rfl, ?_, ?_⟩
    · refine own_lift (b := w.heap.size + 3) ?_ (by omega)
      repeat' (first | (with_reducible exact HO.out) | (with_reducible refine ownsRow_setCell_below ?_ ?_ _; rotate_left; (simp <;> omega)))
    · repeat' (first | (with_reducible exact HB.out) | (with_reducible exact Below.refl _ _) | (with_reducible refine Below.setCell ?_ ?_ _; rotate_left; (simp <;> omega)) | (with_reducible refine Below.alloc ?_ ?_ _; rotate_left; (simp <;> omega)))


set_option maxHeartbeats 1600000 in
theorem withAll_Hear (q : Nat) (me : Int) (act : Bool) (term cyc : Int) (A : Option Addr) (n c : Nat) (sil pat : Int) (zs : List Int) (bf bt bc : Int) (B : Option Addr) (m d : Nat) (ys : List Int) (w : World) (hr : Rd w 1 A n (ints zs)) (hn : n * 8 ≤ 140737488351232) (hry : Rd w 1 B m (ints ys)) (hm : m * 8 ≤ 140737488351232) (hq : Blk w q 33 #[.int .i64 bf, .int .i64 bt, .int .i64 bc, .slice B m d]) :
    Calls Try.prog 38 #[sideV me act term cyc (.slice A n c) sil pat, .func (.func 43) #[] #[.pointer (some ⟨q, 0, none⟩)]] w fun e w' => FreshS w w' e (heededF [] ⟨me, act, term, cyc, zs, sil, pat⟩ n bf bt bc ys m) := by
  cases hok : standB me act term cyc n sil pat
  · rw [show heededF [] ⟨me, act, term, cyc, zs, sil, pat⟩ n bf bt bc ys m = (zeroS [], 15) from by simp [heededF, SD.ok, hok]]
    exact with_Hear_bad q me act term cyc A n c sil pat w hok
  · have hs := step_Hear w q me act term cyc A n c sil pat bf bt bc B m d hq
    rw [show heededF [] ⟨me, act, term, cyc, zs, sil, pat⟩ n bf bt bc ys m = heardS ⟨me, act, term, cyc, zs, sil, pat⟩ bf bt bc ys m from by simp [heardS, heededF, SD.ok, hok]]
    cases ht : toldB bf bt bc m
    · simp only [heardS, ht, Bool.false_eq_true, if_false] at hs ⊢
      exact with_Hear_err q me act term cyc A n c sil pat 3 zs w hok hr hn (by decide) hs
    · by_cases h1 : bf = me
      · subst h1
        simp only [heardS, ht, if_true] at hs ⊢
        exact with_Hear_err q bf act term cyc A n c sil pat 6 zs w hok hr hn (by decide) hs
      · by_cases h2 : bt < term
        · simp only [heardS, ht, if_true, if_false, h1, h2] at hs ⊢
          exact with_Hear_err q me act term cyc A n c sil pat 18 zs w hok hr hn (by decide) hs
        · by_cases h3 : bt = term ∧ (act = true ∧ me = 0 ∨ act = false ∧ bc < cyc)
          · simp only [heardS, ht, if_true, if_false, h1, h2] at hs ⊢
            rw [if_pos (show oldP (⟨me, act, term, cyc, Value.slice A n c, sil, pat⟩ : SD Value) bt bc from h3)] at hs
            rw [if_pos (show oldP (⟨me, act, term, cyc, zs, sil, pat⟩ : SD (List Int)) bt bc from h3)]
            exact with_Hear_err q me act term cyc A n c sil pat 18 zs w hok hr hn (by decide) hs
          · simp only [heardS, ht, if_true, if_false, h1, h2] at hs ⊢
            rw [if_neg (show ¬ oldP (⟨me, act, term, cyc, Value.slice A n c, sil, pat⟩ : SD Value) bt bc from h3)] at hs
            rw [if_neg (show ¬ oldP (⟨me, act, term, cyc, zs, sil, pat⟩ : SD (List Int)) bt bc from h3)]
            exact with_Hear_ok q me act term cyc A n c sil pat me false bt bc B m d 0 pat ys w hok hry hm hs


set_option maxHeartbeats 1600000 in
theorem Hear_any (me : Int) (act : Bool) (term cyc : Int) (A : Option Addr) (n c : Nat) (sil pat : Int) (zs : List Int) (bf bt bc : Int) (B : Option Addr) (m d : Nat) (ys : List Int) (w : World) (hr : Rd w 1 A n (ints zs)) (hn : n * 8 ≤ 140737488351232) (hry : Rd w 1 B m (ints ys)) (hm : m * 8 ≤ 140737488351232) :
    Calls Try.prog 27 #[sideV me act term cyc (.slice A n c) sil pat, beatV bf bt bc (.slice B m d)] w fun e w' => FreshS w w' e (heededF [] ⟨me, act, term, cyc, zs, sil, pat⟩ n bf bt bc ys m) := by
  generalize hF : heededF [] ⟨me, act, term, cyc, zs, sil, pat⟩ n bf bt bc ys m = F
  have HF := Lib.hid hF
  have HR := Lib.hid hr
  have HRY := Lib.hid hry
  clear hry
  clear hF hr
  go_enter Try.func27, Try.ntmps27
  go_wp2_with (go_at_call 38; refine (withAll_Hear (w.heap.size + 1) me act term cyc A n c sil pat zs bf bt bc B m d ys _ (((HR.out.alloc _).alloc _).alloc _) hn (((HRY.out.alloc _).alloc _).alloc _) hm (Blk.alloc (by simpa only [World.size_alloc] using Blk.new (w.alloc (.cells (sideC me act term cyc (.slice A n c) sil pat) 25)) 33 #[.int .i64 bf, .int .i64 bt, .int .i64 bc, .slice B m d]) _)).mono ?_; intro e w' hf; rw [HF.out] at hf; obtain ⟨A1, d1, rfl, ho, k1, k2, k3, hb, hz1, hz2, hz3⟩ := FreshS.call3 hf; have c3 := k3.cell; have f3 := k3.frozen; have HO := Lib.hid ho; have HB := Lib.hid hb; clear k1 k2 k3 hb ho hf)
  refine bodyPost_ret (v := .tuple #[(F.1.set (Value.slice A1 F.1.img.length d1)).val, .int .i64 F.2]) ?_ rfl ?_
  · simp [results, Try.results27, go_sem, SD.set, SD.val, c3]
  · refine ⟨A1, d1, rfl, ?_, ?_⟩
    · refine own_lift (b := w.heap.size + 3) ?_ (by omega)
      repeat' (first | (with_reducible exact HO.out) | (with_reducible refine ownsRow_setCell_below ?_ ?_ _; rotate_left; (simp <;> omega)))
    · repeat' (first | (with_reducible exact HB.out) | (with_reducible exact Below.refl _ _) | (with_reducible refine Below.setCell ?_ ?_ _; rotate_left; (simp <;> omega)) | (with_reducible refine Below.alloc ?_ ?_ _; rotate_left; (simp <;> omega)))

end Go.Proofs.Ytlccpnloankloaa.Pair
