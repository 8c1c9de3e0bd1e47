/-
  Contracts of pair's with, at each of its four steps: what it answers, if the step does what it is said to do to the side that it is handed. Conditions: the images read and are within the reach; the step's contract.
-/
import Derived.Test.YtlccpnloankloaaPair3
namespace Go.Proofs.Ytlccpnloankloaa.Pair
open Go.RowKit Go.Proofs.Ytlccpnloankloaa.W Go.Proofs.Ytlccpnloankloaa.Ints

def okF {α : Type} (nil : α) (s : SD α) (n : Nat) (r : SD α × Int) : SD α × Int := if s.ok n then r else (zeroS nil, 15)


/-- the step's contract: it answers r.2 and leaves the side r.1 -/
def StepSend (w : World) (s : SD Value) (r : SD Value × Int) : Prop :=
  ∀ (W : World) (b : Nat), Below w.heap.size w W → w.heap.size ≤ b → Blk W b 25 (sideC s.me s.act s.term s.cyc s.img s.sil s.pat) →
    Calls Try.prog 39 #[.pointer (some ⟨b, 0, none⟩)] W fun e W' => e = .returned (.int .i64 r.2) ∧ Blk W' b 25 (sideC r.1.me r.1.act r.1.term r.1.cyc r.1.img r.1.sil r.1.pat) ∧ W.grownBy W' (some b)

set_option maxHeartbeats 1600000 in
theorem with_Send_bad (me : Int) (act : Bool) (term cyc : Int) (A : Option Addr) (n c : Nat) (sil pat : Int) (w : World) (hok : standB me act term cyc n sil pat = false) :
    Calls Try.prog 38 #[sideV me act term cyc (.slice A n c) sil pat, .func (.func 39) #[] #[]] w fun e w' => FreshS w w' e (zeroS [], 15) := by
  have key : toldB me term cyc n = false ∨ toldB me term cyc n = true ∧ (inB pat 1 1000 = false ∨ inB pat 1 1000 = true ∧ (inB sil 0 (pat - 1) = false ∨ inB sil 0 (pat - 1) = true ∧ act = true ∧ 0 < sil)) := by
    cases h1 : toldB me term cyc n
    · exact .inl rfl
    · cases h2 : inB pat 1 1000
      · exact .inr ⟨rfl, .inl rfl⟩
      · cases h3 : inB sil 0 (pat - 1)
        · exact .inr ⟨rfl, .inr ⟨rfl, .inl rfl⟩⟩
        · simp [standB, h1, h2, h3] at hok
          exact .inr ⟨rfl, .inr ⟨rfl, .inr ⟨rfl, hok⟩⟩⟩
  clear hok
  rcases key with ht | ⟨ht, hp | ⟨hp, hs | ⟨hs, rfl, hsil⟩⟩⟩
  · have HT := Lib.hid ht
    clear ht
    go_enter Try.func38, Try.ntmps38
    go_wp2_with (go_at_call 44; refine (told_any _ _ _ _ _ _ _).mono ?_; rintro e w' ⟨rfl, rfl⟩; rw [HT.out])
    refine bodyPost_ret (v := .tuple #[((zeroS ([] : List Int)).set nilS).val, .int .i64 15]) ?_ rfl ?_
    · simp [results, Try.results38, go_sem, zeroS, SD.set, SD.val]
    · refine ⟨none, 0, rfl, World.ownsRow_nil _ _ _ _, ?_⟩
      repeat' (first | (with_reducible exact HB.out) | (with_reducible exact Below.refl _ _) | (with_reducible refine Below.setCell ?_ ?_ _; rotate_left; (simp <;> omega)) | (with_reducible refine Below.alloc ?_ ?_ _; rotate_left; (simp <;> omega)))
  · have HT := Lib.hid ht
    have HP := Lib.hid hp
    clear ht hp
    go_enter Try.func38, Try.ntmps38
    go_wp2_with (first | (go_at_call 44; refine (told_any _ _ _ _ _ _ _).mono ?_; rintro e w' ⟨rfl, rfl⟩; rw [HT.out]) | (go_at_call 34; refine (in_any _ _ _ _).mono ?_; rintro e w' ⟨rfl, rfl⟩; rw [HP.out]))
    refine bodyPost_ret (v := .tuple #[((zeroS ([] : List Int)).set nilS).val, .int .i64 15]) ?_ rfl ?_
    · simp [results, Try.results38, go_sem, zeroS, SD.set, SD.val]
    · refine ⟨none, 0, rfl, World.ownsRow_nil _ _ _ _, ?_⟩
      repeat' (first | (with_reducible exact HB.out) | (with_reducible exact Below.refl _ _) | (with_reducible refine Below.setCell ?_ ?_ _; rotate_left; (simp <;> omega)) | (with_reducible refine Below.alloc ?_ ?_ _; rotate_left; (simp <;> omega)))
  · have HT := Lib.hid ht
    have HP := Lib.hid hp
    have HS := Lib.hid hs
    obtain ⟨p1, p2⟩ := inB_iff.1 hp
    clear ht hp hs
    go_enter Try.func38, Try.ntmps38
    go_wp2_with (first | (go_at_call 44; refine (told_any _ _ _ _ _ _ _).mono ?_; rintro e w' ⟨rfl, rfl⟩; rw [HT.out]) | (go_at_call 34; refine (in_any _ _ _ _).mono ?_; rintro e w' ⟨rfl, rfl⟩; first | rw [HP.out] | rw [HS.out]))
    refine bodyPost_ret (v := .tuple #[((zeroS ([] : List Int)).set nilS).val, .int .i64 15]) ?_ rfl ?_
    · simp [results, Try.results38, go_sem, zeroS, SD.set, SD.val]
    · refine ⟨none, 0, rfl, World.ownsRow_nil _ _ _ _, ?_⟩
      repeat' (first | (with_reducible exact HB.out) | (with_reducible exact Below.refl _ _) | (with_reducible refine Below.setCell ?_ ?_ _; rotate_left; (simp <;> omega)) | (with_reducible refine Below.alloc ?_ ?_ _; rotate_left; (simp <;> omega)))
  · have HT := Lib.hid ht
    have HP := Lib.hid hp
    have HS := Lib.hid hs
    obtain ⟨p1, p2⟩ := inB_iff.1 hp
    clear ht hp hs
    go_enter Try.func38, Try.ntmps38
    go_wp2_with (first | (go_at_call 44; refine (told_any _ _ _ _ _ _ _).mono ?_; rintro e w' ⟨rfl, rfl⟩; rw [HT.out]) | (go_at_call 34; refine (in_any _ _ _ _).mono ?_; rintro e w' ⟨rfl, rfl⟩; first | rw [HP.out] | rw [HS.out]))
    refine bodyPost_ret (v := .tuple #[((zeroS ([] : List Int)).set nilS).val, .int .i64 15]) ?_ rfl ?_
    · simp [results, Try.results38, go_sem, zeroS, SD.set, SD.val]
    · refine ⟨none, 0, rfl, World.ownsRow_nil _ _ _ _, ?_⟩
      repeat' (first | (with_reducible exact HB.out) | (with_reducible exact Below.refl _ _) | (with_reducible refine Below.setCell ?_ ?_ _; rotate_left; (simp <;> omega)) | (with_reducible refine Below.alloc ?_ ?_ _; rotate_left; (simp <;> omega)))

set_option maxHeartbeats 1600000 in
theorem with_Send_err (me : Int) (act : Bool) (term cyc : Int) (A : Option Addr) (n c : Nat) (sil pat : Int) (e0 : Int) (zs : List Int) (w : World) (hok : standB me act term cyc n sil pat = true)
    (hr : Rd w 1 A n (ints zs)) (hn : n * 8 ≤ 140737488351232) (he : (e0 != 0) = true) (hstep : StepSend w ⟨me, act, term, cyc, .slice A n c, sil, pat⟩ (⟨me, act, term, cyc, .slice A n c, sil, pat⟩, e0)) :
    Calls Try.prog 38 #[sideV me act term cyc (.slice A n c) sil pat, .func (.func 39) #[] #[]] w fun e w' => FreshS w w' e (⟨me, act, term, cyc, zs, sil, pat⟩, e0) := by
  obtain ⟨⟨b1, b2, b3, b4, b5, b6, b7⟩, b8, b9, b10, b11, b12⟩ := standB_iff.1 hok
  have HT := Lib.hid (toldB_iff.2 ⟨b1, b2, b3, b4, b5, b6, b7⟩)
  have HL := Lib.hid (rd_len hr)
  have HR := Lib.hid hr
  have HS := Lib.hid hstep
  have i1 := Lib.hid (inB_true b8 b9)
  have i2 := Lib.hid (inB_true b10 b11)
  have hsil : act = false ∨ act = true ∧ sil ≤ 0 := by cases act <;> simp_all
  clear hok hr hstep b12
  rcases hsil with rfl | ⟨rfl, hsil⟩
  all_goals go_enter Try.func38, Try.ntmps38
  all_goals go_wp2_with (first | (go_at_call 44; refine (told_any _ _ _ _ _ _ _).mono ?_; rintro e w' ⟨rfl, rfl⟩; rw [HT.out]) | (go_at_call 34; refine (in_any _ _ _ _).mono ?_; rintro e w' ⟨rfl, rfl⟩; first | rw [i1.out] | rw [i2.out]) | (go_at_call 39; refine (HS.out _ (w.heap.size + 2) (below3 _ _ _ _) (by omega) (Blk.new3 _ _ _ _ _ _ _)).mono ?_; rintro e w1 ⟨rfl, k3, hg⟩; obtain ⟨k1, k2, hb, hz1, hz2, hz3⟩ := after3g hg; have c1 := k1.cell; have c2 := k2.cell; have f1 := k1.frozen; have K1 := Lib.hid k1; have K2 := Lib.hid k2; have hb1 := Lib.hid hb; clear k1 k2 k3 hg hb) | (go_at_call 35; refine (Clone_any A n c zs _ (HR.out.below hb1.out) hn).mono ?_; rintro e w2 ⟨A1, d1, rfl, ho, hb⟩; have k1 := K1.out.below hb; have k2 := K2.out.below hb; have hs2 := hb.size; have hz4 := Nat.lt_of_lt_of_le hz1 hs2; have hz5 := Nat.lt_of_lt_of_le hz2 hs2; have HO := Lib.hid (own_lift ho (Nat.le_of_lt hz3)); have HB := Lib.hid (hb1.out.trans (hb.mono (Nat.le_of_lt hz1))); clear hb ho c1 c2 f1; have c1 := k1.cell; have c2 := k2.cell; have f1 := k1.frozen; have f2 := k2.frozen; clear k1 k2))
  · refine bodyPost_ret (v := .tuple #[((⟨me, false, term, cyc, zs, sil, pat⟩ : SD (List Int)).set (Value.slice A1 n d1)).val, .int .i64 e0]) ?_ rfl ?_
    · simp [results, Try.results38, go_sem, SD.set, SD.val, c2]
    · have hL := HL.out
      subst hL
      refine ⟨A1, d1, rfl, ?_, ?_⟩
      · refine own_lift (b := w.heap.size + 2) ?_ (by omega)
        repeat' (first | (with_reducible exact HO.out) | (with_reducible refine ownsRow_setCell_below ?_ ?_ _; rotate_left; (simp <;> omega)))
      · repeat' (first | (with_reducible exact HB.out) | (with_reducible exact Below.refl _ _) | (with_reducible refine Below.setCell ?_ ?_ _; rotate_left; (simp <;> omega)) | (with_reducible refine Below.alloc ?_ ?_ _; rotate_left; (simp <;> omega)))
  · refine bodyPost_ret (v := .tuple #[((⟨me, true, term, cyc, zs, sil, pat⟩ : SD (List Int)).set (Value.slice A1 n d1)).val, .int .i64 e0]) ?_ rfl ?_
    · simp [results, Try.results38, go_sem, SD.set, SD.val, c2]
    · have hL := HL.out
      subst hL
      refine ⟨A1, d1, rfl, ?_, ?_⟩
      · refine own_lift (b := w.heap.size + 2) ?_ (by omega)
        repeat' (first | (with_reducible exact HO.out) | (with_reducible refine ownsRow_setCell_below ?_ ?_ _; rotate_left; (simp <;> omega)))
      · repeat' (first | (with_reducible exact HB.out) | (with_reducible exact Below.refl _ _) | (with_reducible refine Below.setCell ?_ ?_ _; rotate_left; (simp <;> omega)) | (with_reducible refine Below.alloc ?_ ?_ _; rotate_left; (simp <;> omega)))

set_option maxHeartbeats 1600000 in
theorem with_Send_ok (me : Int) (act : Bool) (term cyc : Int) (A : Option Addr) (n c : Nat) (sil pat : Int) (me' : Int) (act' : Bool) (term' cyc' : Int) (A' : Option Addr) (n' c' : Nat) (sil' pat' : Int) (zs : List Int) (w : World) (hok : standB me act term cyc n sil pat = true)
    (hr : Rd w 1 A' n' (ints zs)) (hn : n' * 8 ≤ 140737488351232) (hstep : StepSend w ⟨me, act, term, cyc, .slice A n c, sil, pat⟩ (⟨me', act', term', cyc', .slice A' n' c', sil', pat'⟩, 0)) :
    Calls Try.prog 38 #[sideV me act term cyc (.slice A n c) sil pat, .func (.func 39) #[] #[]] w fun e w' => FreshS w w' e (⟨me', act', term', cyc', zs, sil', pat'⟩, 0) := by
  obtain ⟨⟨b1, b2, b3, b4, b5, b6, b7⟩, b8, b9, b10, b11, b12⟩ := standB_iff.1 hok
  have HT := Lib.hid (toldB_iff.2 ⟨b1, b2, b3, b4, b5, b6, b7⟩)
  have HL := Lib.hid (rd_len hr)
  have HR := Lib.hid hr
  have HS := Lib.hid hstep
  have i1 := Lib.hid (inB_true b8 b9)
  have i2 := Lib.hid (inB_true b10 b11)
  have hsil : act = false ∨ act = true ∧ sil ≤ 0 := by cases act <;> simp_all
  clear hok hr hstep b12
  rcases hsil with rfl | ⟨rfl, hsil⟩
  all_goals go_enter Try.func38, Try.ntmps38
  all_goals go_wp2_with (first | (go_at_call 44; refine (told_any _ _ _ _ _ _ _).mono ?_; rintro e w' ⟨rfl, rfl⟩; rw [HT.out]) | (go_at_call 34; refine (in_any _ _ _ _).mono ?_; rintro e w' ⟨rfl, rfl⟩; first | rw [i1.out] | rw [i2.out]) | (go_at_call 39; refine (HS.out _ (w.heap.size + 2) (below3 _ _ _ _) (by omega) (Blk.new3 _ _ _ _ _ _ _)).mono ?_; rintro e w1 ⟨rfl, k3, hg⟩; obtain ⟨k1, k2, hb, hz1, hz2, hz3⟩ := after3g hg; have c1 := k1.cell; have c2 := k2.cell; have c3 := k3.cell; have K2 := Lib.hid k2; have K3 := Lib.hid k3; have hb1 := Lib.hid hb; clear k1 k2 k3 hg hb) | (go_at_call 35; refine (Clone_any A' n' c' zs _ (HR.out.below hb1.out) hn).mono ?_; rintro e w2 ⟨A1, d1, rfl, ho, hb⟩; have k3 := K3.out.below hb; have k2 := K2.out.below hb; have hs2 := hb.size; have hz4 := Nat.lt_of_lt_of_le hz1 hs2; have hz6 := Nat.lt_of_lt_of_le hz3 hs2; have hz5 := Nat.lt_of_lt_of_le hz2 hs2; have HO := Lib.hid (own_lift ho (Nat.succ_le_of_lt hz3)); have HB := Lib.hid (hb1.out.trans (hb.mono (Nat.le_of_lt hz1))); clear hb ho c1 c2 c3; have c3 := k3.cell; have c2 := k2.cell; have f3 := k3.frozen; have f2 := k2.frozen; clear k3 k2))
  all_goals
    refine bodyPost_ret (v := .tuple #[((⟨me', act', term', cyc', zs, sil', pat'⟩ : SD (List Int)).set (Value.slice A1 n' d1)).val, .int .i64 0]) ?_ rfl ?_
    · simp [results, Try.results38, go_sem, SD.set, SD.val, c2]
    · have hL := HL.out
      subst hL
      refine ⟨A1, d1, rfl, ?_, ?_⟩
      · refine own_lift (b := w.heap.size + 2 + 1) ?_ (by omega)
        repeat' (first | (with_reducible exact HO.out) | (with_reducible refine ownsRow_setCell_below ?_ ?_ _; rotate_left; (simp <;> omega)))
      · repeat' (first | (with_reducible exact HB.out) | (with_reducible exact Below.refl _ _) | (with_reducible refine Below.setCell ?_ ?_ _; rotate_left; (simp <;> omega)) | (with_reducible refine Below.alloc ?_ ?_ _; rotate_left; (simp <;> omega)))


/-- the step's contract: it answers r.2 and leaves the side r.1 -/
def StepWait (w : World) (s : SD Value) (r : SD Value × Int) : Prop :=
  ∀ (W : World) (b : Nat), Below w.heap.size w W → w.heap.size ≤ b → Blk W b 25 (sideC s.me s.act s.term s.cyc s.img s.sil s.pat) →
    Calls Try.prog 41 #[.pointer (some ⟨b, 0, none⟩)] W fun e W' => e = .returned (.int .i64 r.2) ∧ Blk W' b 25 (sideC r.1.me r.1.act r.1.term r.1.cyc r.1.img r.1.sil r.1.pat) ∧ W.grownBy W' (some b)

set_option maxHeartbeats 1600000 in
theorem with_Wait_bad (me : Int) (act : Bool) (term cyc : Int) (A : Option Addr) (n c : Nat) (sil pat : Int) (w : World) (hok : standB me act term cyc n sil pat = false) :
    Calls Try.prog 38 #[sideV me act term cyc (.slice A n c) sil pat, .func (.func 41) #[] #[]] w fun e w' => FreshS w w' e (zeroS [], 15) := by
  have key : toldB me term cyc n = false ∨ toldB me term cyc n = true ∧ (inB pat 1 1000 = false ∨ inB pat 1 1000 = true ∧ (inB sil 0 (pat - 1) = false ∨ inB sil 0 (pat - 1) = true ∧ act = true ∧ 0 < sil)) := by
    cases h1 : toldB me term cyc n
    · exact .inl rfl
    · cases h2 : inB pat 1 1000
      · exact .inr ⟨rfl, .inl rfl⟩
      · cases h3 : inB sil 0 (pat - 1)
        · exact .inr ⟨rfl, .inr ⟨rfl, .inl rfl⟩⟩
        · simp [standB, h1, h2, h3] at hok
          exact .inr ⟨rfl, .inr ⟨rfl, .inr ⟨rfl, hok⟩⟩⟩
  clear hok
  rcases key with ht | ⟨ht, hp | ⟨hp, hs | ⟨hs, rfl, hsil⟩⟩⟩
  · have HT := Lib.hid ht
    clear ht
    go_enter Try.func38, Try.ntmps38
    go_wp2_with (go_at_call 44; refine (told_any _ _ _ _ _ _ _).mono ?_; rintro e w' ⟨rfl, rfl⟩; rw [HT.out])
    refine bodyPost_ret (v := .tuple #[((zeroS ([] : List Int)).set nilS).val, .int .i64 15]) ?_ rfl ?_
    · simp [results, Try.results38, go_sem, zeroS, SD.set, SD.val]
    · refine ⟨none, 0, rfl, World.ownsRow_nil _ _ _ _, ?_⟩
      repeat' (first | (with_reducible exact HB.out) | (with_reducible exact Below.refl _ _) | (with_reducible refine Below.setCell ?_ ?_ _; rotate_left; (simp <;> omega)) | (with_reducible refine Below.alloc ?_ ?_ _; rotate_left; (simp <;> omega)))
  · have HT := Lib.hid ht
    have HP := Lib.hid hp
    clear ht hp
    go_enter Try.func38, Try.ntmps38
    go_wp2_with (first | (go_at_call 44; refine (told_any _ _ _ _ _ _ _).mono ?_; rintro e w' ⟨rfl, rfl⟩; rw [HT.out]) | (go_at_call 34; refine (in_any _ _ _ _).mono ?_; rintro e w' ⟨rfl, rfl⟩; rw [HP.out]))
    refine bodyPost_ret (v := .tuple #[((zeroS ([] : List Int)).set nilS).val, .int .i64 15]) ?_ rfl ?_
    · simp [results, Try.results38, go_sem, zeroS, SD.set, SD.val]
    · refine ⟨none, 0, rfl, World.ownsRow_nil _ _ _ _, ?_⟩
      repeat' (first | (with_reducible exact HB.out) | (with_reducible exact Below.refl _ _) | (with_reducible refine Below.setCell ?_ ?_ _; rotate_left; (simp <;> omega)) | (with_reducible refine Below.alloc ?_ ?_ _; rotate_left; (simp <;> omega)))
  · have HT := Lib.hid ht
    have HP := Lib.hid hp
    have HS := Lib.hid hs
    obtain ⟨p1, p2⟩ := inB_iff.1 hp
    clear ht hp hs
    go_enter Try.func38, Try.ntmps38
    go_wp2_with (first | (go_at_call 44; refine (told_any _ _ _ _ _ _ _).mono ?_; rintro e w' ⟨rfl, rfl⟩; rw [HT.out]) | (go_at_call 34; refine (in_any _ _ _ _).mono ?_; rintro e w' ⟨rfl, rfl⟩; first | rw [HP.out] | rw [HS.out]))
    refine bodyPost_ret (v := .tuple #[((zeroS ([] : List Int)).set nilS).val, .int .i64 15]) ?_ rfl ?_
    · simp [results, Try.results38, go_sem, zeroS, SD.set, SD.val]
    · refine ⟨none, 0, rfl, World.ownsRow_nil _ _ _ _, ?_⟩
      repeat' (first | (with_reducible exact HB.out) | (with_reducible exact Below.refl _ _) | (with_reducible refine Below.setCell ?_ ?_ _; rotate_left; (simp <;> omega)) | (with_reducible refine Below.alloc ?_ ?_ _; rotate_left; (simp <;> omega)))
  · have HT := Lib.hid ht
    have HP := Lib.hid hp
    have HS := Lib.hid hs
    obtain ⟨p1, p2⟩ := inB_iff.1 hp
    clear ht hp hs
    go_enter Try.func38, Try.ntmps38
    go_wp2_with (first | (go_at_call 44; refine (told_any _ _ _ _ _ _ _).mono ?_; rintro e w' ⟨rfl, rfl⟩; rw [HT.out]) | (go_at_call 34; refine (in_any _ _ _ _).mono ?_; rintro e w' ⟨rfl, rfl⟩; first | rw [HP.out] | rw [HS.out]))
    refine bodyPost_ret (v := .tuple #[((zeroS ([] : List Int)).set nilS).val, .int .i64 15]) ?_ rfl ?_
    · simp [results, Try.results38, go_sem, zeroS, SD.set, SD.val]
    · refine ⟨none, 0, rfl, World.ownsRow_nil _ _ _ _, ?_⟩
      repeat' (first | (with_reducible exact HB.out) | (with_reducible exact Below.refl _ _) | (with_reducible refine Below.setCell ?_ ?_ _; rotate_left; (simp <;> omega)) | (with_reducible refine Below.alloc ?_ ?_ _; rotate_left; (simp <;> omega)))

set_option maxHeartbeats 1600000 in
theorem with_Wait_err (me : Int) (act : Bool) (term cyc : Int) (A : Option Addr) (n c : Nat) (sil pat : Int) (e0 : Int) (zs : List Int) (w : World) (hok : standB me act term cyc n sil pat = true)
    (hr : Rd w 1 A n (ints zs)) (hn : n * 8 ≤ 140737488351232) (he : (e0 != 0) = true) (hstep : StepWait w ⟨me, act, term, cyc, .slice A n c, sil, pat⟩ (⟨me, act, term, cyc, .slice A n c, sil, pat⟩, e0)) :
    Calls Try.prog 38 #[sideV me act term cyc (.slice A n c) sil pat, .func (.func 41) #[] #[]] w fun e w' => FreshS w w' e (⟨me, act, term, cyc, zs, sil, pat⟩, e0) := by
  obtain ⟨⟨b1, b2, b3, b4, b5, b6, b7⟩, b8, b9, b10, b11, b12⟩ := standB_iff.1 hok
  have HT := Lib.hid (toldB_iff.2 ⟨b1, b2, b3, b4, b5, b6, b7⟩)
  have HL := Lib.hid (rd_len hr)
  have HR := Lib.hid hr
  have HS := Lib.hid hstep
  have i1 := Lib.hid (inB_true b8 b9)
  have i2 := Lib.hid (inB_true b10 b11)
  have hsil : act = false ∨ act = true ∧ sil ≤ 0 := by cases act <;> simp_all
  clear hok hr hstep b12
  rcases hsil with rfl | ⟨rfl, hsil⟩
  all_goals go_enter Try.func38, Try.ntmps38
  all_goals go_wp2_with (first | (go_at_call 44; refine (told_any _ _ _ _ _ _ _).mono ?_; rintro e w' ⟨rfl, rfl⟩; rw [HT.out]) | (go_at_call 34; refine (in_any _ _ _ _).mono ?_; rintro e w' ⟨rfl, rfl⟩; first | rw [i1.out] | rw [i2.out]) | (go_at_call 41; refine (HS.out _ (w.heap.size + 2) (below3 _ _ _ _) (by omega) (Blk.new3 _ _ _ _ _ _ _)).mono ?_; rintro e w1 ⟨rfl, k3, hg⟩; obtain ⟨k1, k2, hb, hz1, hz2, hz3⟩ := after3g hg; have c1 := k1.cell; have c2 := k2.cell; have f1 := k1.frozen; have K1 := Lib.hid k1; have K2 := Lib.hid k2; have hb1 := Lib.hid hb; clear k1 k2 k3 hg hb) | (go_at_call 35; refine (Clone_any A n c zs _ (HR.out.below hb1.out) hn).mono ?_; rintro e w2 ⟨A1, d1, rfl, ho, hb⟩; have k1 := K1.out.below hb; have k2 := K2.out.below hb; have hs2 := hb.size; have hz4 := Nat.lt_of_lt_of_le hz1 hs2; have hz5 := Nat.lt_of_lt_of_le hz2 hs2; have HO := Lib.hid (own_lift ho (Nat.le_of_lt hz3)); have HB := Lib.hid (hb1.out.trans (hb.mono (Nat.le_of_lt hz1))); clear hb ho c1 c2 f1; have c1 := k1.cell; have c2 := k2.cell; have f1 := k1.frozen; have f2 := k2.frozen; clear k1 k2))
  · refine bodyPost_ret (v := .tuple #[((⟨me, false, term, cyc, zs, sil, pat⟩ : SD (List Int)).set (Value.slice A1 n d1)).val, .int .i64 e0]) ?_ rfl ?_
    · simp [results, Try.results38, go_sem, SD.set, SD.val, c2]
    · have hL := HL.out
      subst hL
      refine ⟨A1, d1, rfl, ?_, ?_⟩
      · refine own_lift (b := w.heap.size + 2) ?_ (by omega)
        repeat' (first | (with_reducible exact HO.out) | (with_reducible refine ownsRow_setCell_below ?_ ?_ _; rotate_left; (simp <;> omega)))
      · repeat' (first | (with_reducible exact HB.out) | (with_reducible exact Below.refl _ _) | (with_reducible refine Below.setCell ?_ ?_ _; rotate_left; (simp <;> omega)) | (with_reducible refine Below.alloc ?_ ?_ _; rotate_left; (simp <;> omega)))
  · refine bodyPost_ret (v := .tuple #[((⟨me, true, term, cyc, zs, sil, pat⟩ : SD (List Int)).set (Value.slice A1 n d1)).val, .int .i64 e0]) ?_ rfl ?_
    · simp [results, Try.results38, go_sem, SD.set, SD.val, c2]
    · have hL := HL.out
      subst hL
      refine ⟨A1, d1, rfl, ?_, ?_⟩
      · refine own_lift (b := w.heap.size + 2) ?_ (by omega)
        repeat' (first | (with_reducible exact HO.out) | (with_reducible refine ownsRow_setCell_below ?_ ?_ _; rotate_left; (simp <;> omega)))
      · repeat' (first | (with_reducible exact HB.out) | (with_reducible exact Below.refl _ _) | (with_reducible refine Below.setCell ?_ ?_ _; rotate_left; (simp <;> omega)) | (with_reducible refine Below.alloc ?_ ?_ _; rotate_left; (simp <;> omega)))

set_option maxHeartbeats 1600000 in
theorem with_Wait_ok (me : Int) (act : Bool) (term cyc : Int) (A : Option Addr) (n c : Nat) (sil pat : Int) (me' : Int) (act' : Bool) (term' cyc' : Int) (A' : Option Addr) (n' c' : Nat) (sil' pat' : Int) (zs : List Int) (w : World) (hok : standB me act term cyc n sil pat = true)
    (hr : Rd w 1 A' n' (ints zs)) (hn : n' * 8 ≤ 140737488351232) (hstep : StepWait w ⟨me, act, term, cyc, .slice A n c, sil, pat⟩ (⟨me', act', term', cyc', .slice A' n' c', sil', pat'⟩, 0)) :
    Calls Try.prog 38 #[sideV me act term cyc (.slice A n c) sil pat, .func (.func 41) #[] #[]] w fun e w' => FreshS w w' e (⟨me', act', term', cyc', zs, sil', pat'⟩, 0) := by
  obtain ⟨⟨b1, b2, b3, b4, b5, b6, b7⟩, b8, b9, b10, b11, b12⟩ := standB_iff.1 hok
  have HT := Lib.hid (toldB_iff.2 ⟨b1, b2, b3, b4, b5, b6, b7⟩)
  have HL := Lib.hid (rd_len hr)
  have HR := Lib.hid hr
  have HS := Lib.hid hstep
  have i1 := Lib.hid (inB_true b8 b9)
  have i2 := Lib.hid (inB_true b10 b11)
  have hsil : act = false ∨ act = true ∧ sil ≤ 0 := by cases act <;> simp_all
  clear hok hr hstep b12
  rcases hsil with rfl | ⟨rfl, hsil⟩
  all_goals go_enter Try.func38, Try.ntmps38
  all_goals go_wp2_with (first | (go_at_call 44; refine (told_any _ _ _ _ _ _ _).mono ?_; rintro e w' ⟨rfl, rfl⟩; rw [HT.out]) | (go_at_call 34; refine (in_any _ _ _ _).mono ?_; rintro e w' ⟨rfl, rfl⟩; first | rw [i1.out] | rw [i2.out]) | (go_at_call 41; refine (HS.out _ (w.heap.size + 2) (below3 _ _ _ _) (by omega) (Blk.new3 _ _ _ _ _ _ _)).mono ?_; rintro e w1 ⟨rfl, k3, hg⟩; obtain ⟨k1, k2, hb, hz1, hz2, hz3⟩ := after3g hg; have c1 := k1.cell; have c2 := k2.cell; have c3 := k3.cell; have K2 := Lib.hid k2; have K3 := Lib.hid k3; have hb1 := Lib.hid hb; clear k1 k2 k3 hg hb) | (go_at_call 35; refine (Clone_any A' n' c' zs _ (HR.out.below hb1.out) hn).mono ?_; rintro e w2 ⟨A1, d1, rfl, ho, hb⟩; have k3 := K3.out.below hb; have k2 := K2.out.below hb; have hs2 := hb.size; have hz4 := Nat.lt_of_lt_of_le hz1 hs2; have hz6 := Nat.lt_of_lt_of_le hz3 hs2; have hz5 := Nat.lt_of_lt_of_le hz2 hs2; have HO := Lib.hid (own_lift ho (Nat.succ_le_of_lt hz3)); have HB := Lib.hid (hb1.out.trans (hb.mono (Nat.le_of_lt hz1))); clear hb ho c1 c2 c3; have c3 := k3.cell; have c2 := k2.cell; have f3 := k3.frozen; have f2 := k2.frozen; clear k3 k2))
  all_goals
    refine bodyPost_ret (v := .tuple #[((⟨me', act', term', cyc', zs, sil', pat'⟩ : SD (List Int)).set (Value.slice A1 n' d1)).val, .int .i64 0]) ?_ rfl ?_
    · simp [results, Try.results38, go_sem, SD.set, SD.val, c2]
    · have hL := HL.out
      subst hL
      refine ⟨A1, d1, rfl, ?_, ?_⟩
      · refine own_lift (b := w.heap.size + 2 + 1) ?_ (by omega)
        repeat' (first | (with_reducible exact HO.out) | (with_reducible refine ownsRow_setCell_below ?_ ?_ _; rotate_left; (simp <;> omega)))
      · repeat' (first | (with_reducible exact HB.out) | (with_reducible exact Below.refl _ _) | (with_reducible refine Below.setCell ?_ ?_ _; rotate_left; (simp <;> omega)) | (with_reducible refine Below.alloc ?_ ?_ _; rotate_left; (simp <;> omega)))


/-- the step's contract: it answers r.2 and leaves the side r.1 -/
def StepDone (q : Nat) (w : World) (s : SD Value) (r : SD Value × Int) : Prop :=
  ∀ (W : World) (b : Nat), Below w.heap.size w W → w.heap.size ≤ b → Blk W b 25 (sideC s.me s.act s.term s.cyc s.img s.sil s.pat) →
    Calls Try.prog 40 #[.pointer (some ⟨b, 0, none⟩), .pointer (some ⟨q, 0, none⟩)] W fun e W' => e = .returned (.int .i64 r.2) ∧ Blk W' b 25 (sideC r.1.me r.1.act r.1.term r.1.cyc r.1.img r.1.sil r.1.pat) ∧ W.grownBy W' (some b)

set_option maxHeartbeats 1600000 in
theorem with_Done_bad (q : Nat) (me : Int) (act : Bool) (term cyc : Int) (A : Option Addr) (n c : Nat) (sil pat : Int) (w : World) (hok : standB me act term cyc n sil pat = false) :
    Calls Try.prog 38 #[sideV me act term cyc (.slice A n c) sil pat, .func (.func 40) #[] #[.pointer (some ⟨q, 0, none⟩)]] w fun e w' => FreshS w w' e (zeroS [], 15) := by
  have key : toldB me term cyc n = false ∨ toldB me term cyc n = true ∧ (inB pat 1 1000 = false ∨ inB pat 1 1000 = true ∧ (inB sil 0 (pat - 1) = false ∨ inB sil 0 (pat - 1) = true ∧ act = true ∧ 0 < sil)) := by
    cases h1 : toldB me term cyc n
    · exact .inl rfl
    · cases h2 : inB pat 1 1000
      · exact .inr ⟨rfl, .inl rfl⟩
      · cases h3 : inB sil 0 (pat - 1)
        · exact .inr ⟨rfl, .inr ⟨rfl, .inl rfl⟩⟩
        · simp [standB, h1, h2, h3] at hok
          exact .inr ⟨rfl, .inr ⟨rfl, .inr ⟨rfl, hok⟩⟩⟩
  clear hok
  rcases key with ht | ⟨ht, hp | ⟨hp, hs | ⟨hs, rfl, hsil⟩⟩⟩
  · have HT := Lib.hid ht
    clear ht
    go_enter Try.func38, Try.ntmps38
    go_wp2_with (go_at_call 44; refine (told_any _ _ _ _ _ _ _).mono ?_; rintro e w' ⟨rfl, rfl⟩; rw [HT.out])
    refine bodyPost_ret (v := .tuple #[((zeroS ([] : List Int)).set nilS).val, .int .i64 15]) ?_ rfl ?_
    · simp [results, Try.results38, go_sem, zeroS, SD.set, SD.val]
    · refine ⟨none, 0, rfl, World.ownsRow_nil _ _ _ _, ?_⟩
      repeat' (first | (with_reducible exact HB.out) | (with_reducible exact Below.refl _ _) | (with_reducible refine Below.setCell ?_ ?_ _; rotate_left; (simp <;> omega)) | (with_reducible refine Below.alloc ?_ ?_ _; rotate_left; (simp <;> omega)))
  · have HT := Lib.hid ht
    have HP := Lib.hid hp
    clear ht hp
    go_enter Try.func38, Try.ntmps38
    go_wp2_with (first | (go_at_call 44; refine (told_any _ _ _ _ _ _ _).mono ?_; rintro e w' ⟨rfl, rfl⟩; rw [HT.out]) | (go_at_call 34; refine (in_any _ _ _ _).mono ?_; rintro e w' ⟨rfl, rfl⟩; rw [HP.out]))
    refine bodyPost_ret (v := .tuple #[((zeroS ([] : List Int)).set nilS).val, .int .i64 15]) ?_ rfl ?_
    · simp [results, Try.results38, go_sem, zeroS, SD.set, SD.val]
    · refine ⟨none, 0, rfl, World.ownsRow_nil _ _ _ _, ?_⟩
      repeat' (first | (with_reducible exact HB.out) | (with_reducible exact Below.refl _ _) | (with_reducible refine Below.setCell ?_ ?_ _; rotate_left; (simp <;> omega)) | (with_reducible refine Below.alloc ?_ ?_ _; rotate_left; (simp <;> omega)))
  · have HT := Lib.hid ht
    have HP := Lib.hid hp
    have HS := Lib.hid hs
    obtain ⟨p1, p2⟩ := inB_iff.1 hp
    clear ht hp hs
    go_enter Try.func38, Try.ntmps38
    go_wp2_with (first | (go_at_call 44; refine (told_any _ _ _ _ _ _ _).mono ?_; rintro e w' ⟨rfl, rfl⟩; rw [HT.out]) | (go_at_call 34; refine (in_any _ _ _ _).mono ?_; rintro e w' ⟨rfl, rfl⟩; first | rw [HP.out] | rw [HS.out]))
    refine bodyPost_ret (v := .tuple #[((zeroS ([] : List Int)).set nilS).val, .int .i64 15]) ?_ rfl ?_
    · simp [results, Try.results38, go_sem, zeroS, SD.set, SD.val]
    · refine ⟨none, 0, rfl, World.ownsRow_nil _ _ _ _, ?_⟩
      repeat' (first | (with_reducible exact HB.out) | (with_reducible exact Below.refl _ _) | (with_reducible refine Below.setCell ?_ ?_ _; rotate_left; (simp <;> omega)) | (with_reducible refine Below.alloc ?_ ?_ _; rotate_left; (simp <;> omega)))
  · have HT := Lib.hid ht
    have HP := Lib.hid hp
    have HS := Lib.hid hs
    obtain ⟨p1, p2⟩ := inB_iff.1 hp
    clear ht hp hs
    go_enter Try.func38, Try.ntmps38
    go_wp2_with (first | (go_at_call 44; refine (told_any _ _ _ _ _ _ _).mono ?_; rintro e w' ⟨rfl, rfl⟩; rw [HT.out]) | (go_at_call 34; refine (in_any _ _ _ _).mono ?_; rintro e w' ⟨rfl, rfl⟩; first | rw [HP.out] | rw [HS.out]))
    refine bodyPost_ret (v := .tuple #[((zeroS ([] : List Int)).set nilS).val, .int .i64 15]) ?_ rfl ?_
    · simp [results, Try.results38, go_sem, zeroS, SD.set, SD.val]
    · refine ⟨none, 0, rfl, World.ownsRow_nil _ _ _ _, ?_⟩
      repeat' (first | (with_reducible exact HB.out) | (with_reducible exact Below.refl _ _) | (with_reducible refine Below.setCell ?_ ?_ _; rotate_left; (simp <;> omega)) | (with_reducible refine Below.alloc ?_ ?_ _; rotate_left; (simp <;> omega)))

set_option maxHeartbeats 1600000 in
theorem with_Done_err (q : Nat) (me : Int) (act : Bool) (term cyc : Int) (A : Option Addr) (n c : Nat) (sil pat : Int) (e0 : Int) (zs : List Int) (w : World) (hok : standB me act term cyc n sil pat = true)
    (hr : Rd w 1 A n (ints zs)) (hn : n * 8 ≤ 140737488351232) (he : (e0 != 0) = true) (hstep : StepDone q w ⟨me, act, term, cyc, .slice A n c, sil, pat⟩ (⟨me, act, term, cyc, .slice A n c, sil, pat⟩, e0)) :
    Calls Try.prog 38 #[sideV me act term cyc (.slice A n c) sil pat, .func (.func 40) #[] #[.pointer (some ⟨q, 0, none⟩)]] w fun e w' => FreshS w w' e (⟨me, act, term, cyc, zs, sil, pat⟩, e0) := by
  obtain ⟨⟨b1, b2, b3, b4, b5, b6, b7⟩, b8, b9, b10, b11, b12⟩ := standB_iff.1 hok
  have HT := Lib.hid (toldB_iff.2 ⟨b1, b2, b3, b4, b5, b6, b7⟩)
  have HL := Lib.hid (rd_len hr)
  have HR := Lib.hid hr
  have HS := Lib.hid hstep
  have i1 := Lib.hid (inB_true b8 b9)
  have i2 := Lib.hid (inB_true b10 b11)
  have hsil : act = false ∨ act = true ∧ sil ≤ 0 := by cases act <;> simp_all
  clear hok hr hstep b12
  rcases hsil with rfl | ⟨rfl, hsil⟩
  all_goals go_enter Try.func38, Try.ntmps38
  all_goals go_wp2_with (first | (go_at_call 44; refine (told_any _ _ _ _ _ _ _).mono ?_; rintro e w' ⟨rfl, rfl⟩; rw [HT.out]) | (go_at_call 34; refine (in_any _ _ _ _).mono ?_; rintro e w' ⟨rfl, rfl⟩; first | rw [i1.out] | rw [i2.out]) | (go_at_call 40; refine (HS.out _ (w.heap.size + 2) (below3 _ _ _ _) (by omega) (Blk.new3 _ _ _ _ _ _ _)).mono ?_; rintro e w1 ⟨rfl, k3, hg⟩; obtain ⟨k1, k2, hb, hz1, hz2, hz3⟩ := after3g hg; have c1 := k1.cell; have c2 := k2.cell; have f1 := k1.frozen; have K1 := Lib.hid k1; have K2 := Lib.hid k2; have hb1 := Lib.hid hb; clear k1 k2 k3 hg hb) | (go_at_call 35; refine (Clone_any A n c zs _ (HR.out.below hb1.out) hn).mono ?_; rintro e w2 ⟨A1, d1, rfl, ho, hb⟩; have k1 := K1.out.below hb; have k2 := K2.out.below hb; have hs2 := hb.size; have hz4 := Nat.lt_of_lt_of_le hz1 hs2; have hz5 := Nat.lt_of_lt_of_le hz2 hs2; have HO := Lib.hid (own_lift ho (Nat.le_of_lt hz3)); have HB := Lib.hid (hb1.out.trans (hb.mono (Nat.le_of_lt hz1))); clear hb ho c1 c2 f1; have c1 := k1.cell; have c2 := k2.cell; have f1 := k1.frozen; have f2 := k2.frozen; clear k1 k2))
  · refine bodyPost_ret (v := .tuple #[((⟨me, false, term, cyc, zs, sil, pat⟩ : SD (List Int)).set (Value.slice A1 n d1)).val, .int .i64 e0]) ?_ rfl ?_
    · simp [results, Try.results38, go_sem, SD.set, SD.val, c2]
    · have hL := HL.out
      subst hL
      refine ⟨A1, d1, rfl, ?_, ?_⟩
      · refine own_lift (b := w.heap.size + 2) ?_ (by omega)
        repeat' (first | (with_reducible exact HO.out) | (with_reducible refine ownsRow_setCell_below ?_ ?_ _; rotate_left; (simp <;> omega)))
      · repeat' (first | (with_reducible exact HB.out) | (with_reducible exact Below.refl _ _) | (with_reducible refine Below.setCell ?_ ?_ _; rotate_left; (simp <;> omega)) | (with_reducible refine Below.alloc ?_ ?_ _; rotate_left; (simp <;> omega)))
  · refine bodyPost_ret (v := .tuple #[((⟨me, true, term, cyc, zs, sil, pat⟩ : SD (List Int)).set (Value.slice A1 n d1)).val, .int .i64 e0]) ?_ rfl ?_
    · simp [results, Try.results38, go_sem, SD.set, SD.val, c2]
    · have hL := HL.out
      subst hL
      refine ⟨A1, d1, rfl, ?_, ?_⟩
      · refine own_lift (b := w.heap.size + 2) ?_ (by omega)
        repeat' (first | (with_reducible exact HO.out) | (with_reducible refine ownsRow_setCell_below ?_ ?_ _; rotate_left; (simp <;> omega)))
      · repeat' (first | (with_reducible exact HB.out) | (with_reducible exact Below.refl _ _) | (with_reducible refine Below.setCell ?_ ?_ _; rotate_left; (simp <;> omega)) | (with_reducible refine Below.alloc ?_ ?_ _; rotate_left; (simp <;> omega)))

set_option maxHeartbeats 1600000 in
theorem with_Done_ok (q : Nat) (me : Int) (act : Bool) (term cyc : Int) (A : Option Addr) (n c : Nat) (sil pat : Int) (me' : Int) (act' : Bool) (term' cyc' : Int) (A' : Option Addr) (n' c' : Nat) (sil' pat' : Int) (zs : List Int) (w : World) (hok : standB me act term cyc n sil pat = true)
    (hr : Rd w 1 A' n' (ints zs)) (hn : n' * 8 ≤ 140737488351232) (hstep : StepDone q w ⟨me, act, term, cyc, .slice A n c, sil, pat⟩ (⟨me', act', term', cyc', .slice A' n' c', sil', pat'⟩, 0)) :
    Calls Try.prog 38 #[sideV me act term cyc (.slice A n c) sil pat, .func (.func 40) #[] #[.pointer (some ⟨q, 0, none⟩)]] w fun e w' => FreshS w w' e (⟨me', act', term', cyc', zs, sil', pat'⟩, 0) := by
  obtain ⟨⟨b1, b2, b3, b4, b5, b6, b7⟩, b8, b9, b10, b11, b12⟩ := standB_iff.1 hok
  have HT := Lib.hid (toldB_iff.2 ⟨b1, b2, b3, b4, b5, b6, b7⟩)
  have HL := Lib.hid (rd_len hr)
  have HR := Lib.hid hr
  have HS := Lib.hid hstep
  have i1 := Lib.hid (inB_true b8 b9)
  have i2 := Lib.hid (inB_true b10 b11)
  have hsil : act = false ∨ act = true ∧ sil ≤ 0 := by cases act <;> simp_all
  clear hok hr hstep b12
  rcases hsil with rfl | ⟨rfl, hsil⟩
  all_goals go_enter Try.func38, Try.ntmps38
  all_goals go_wp2_with (first | (go_at_call 44; refine (told_any _ _ _ _ _ _ _).mono ?_; rintro e w' ⟨rfl, rfl⟩; rw [HT.out]) | (go_at_call 34; refine (in_any _ _ _ _).mono ?_; rintro e w' ⟨rfl, rfl⟩; first | rw [i1.out] | rw [i2.out]) | (go_at_call 40; refine (HS.out _ (w.heap.size + 2) (below3 _ _ _ _) (by omega) (Blk.new3 _ _ _ _ _ _ _)).mono ?_; rintro e w1 ⟨rfl, k3, hg⟩; obtain ⟨k1, k2, hb, hz1, hz2, hz3⟩ := after3g hg; have c1 := k1.cell; have c2 := k2.cell; have c3 := k3.cell; have K2 := Lib.hid k2; have K3 := Lib.hid k3; have hb1 := Lib.hid hb; clear k1 k2 k3 hg hb) | (go_at_call 35; refine (Clone_any A' n' c' zs _ (HR.out.below hb1.out) hn).mono ?_; rintro e w2 ⟨A1, d1, rfl, ho, hb⟩; have k3 := K3.out.below hb; have k2 := K2.out.below hb; have hs2 := hb.size; have hz4 := Nat.lt_of_lt_of_le hz1 hs2; have hz6 := Nat.lt_of_lt_of_le hz3 hs2; have hz5 := Nat.lt_of_lt_of_le hz2 hs2; have HO := Lib.hid (own_lift ho (Nat.succ_le_of_lt hz3)); have HB := Lib.hid (hb1.out.trans (hb.mono (Nat.le_of_lt hz1))); clear hb ho c1 c2 c3; have c3 := k3.cell; have c2 := k2.cell; have f3 := k3.frozen; have f2 := k2.frozen; clear k3 k2))
  all_goals
    refine bodyPost_ret (v := .tuple #[((⟨me', act', term', cyc', zs, sil', pat'⟩ : SD (List Int)).set (Value.slice A1 n' d1)).val, .int .i64 0]) ?_ rfl ?_
    · simp [results, Try.results38, go_sem, SD.set, SD.val, c2]
    · have hL := HL.out
      subst hL
      refine ⟨A1, d1, rfl, ?_, ?_⟩
      · refine own_lift (b := w.heap.size + 2 + 1) ?_ (by omega)
        repeat' (first | (with_reducible exact HO.out) | (with_reducible refine ownsRow_setCell_below ?_ ?_ _; rotate_left; (simp <;> omega)))
      · repeat' (first | (with_reducible exact HB.out) | (with_reducible exact Below.refl _ _) | (with_reducible refine Below.setCell ?_ ?_ _; rotate_left; (simp <;> omega)) | (with_reducible refine Below.alloc ?_ ?_ _; rotate_left; (simp <;> omega)))


/-- the step's contract: it answers r.2 and leaves the side r.1 -/
def StepHear (q : Nat) (w : World) (s : SD Value) (r : SD Value × Int) : Prop :=
  ∀ (W : World) (b : Nat), Below w.heap.size w W → w.heap.size ≤ b → Blk W b 25 (sideC s.me s.act s.term s.cyc s.img s.sil s.pat) →
    Calls Try.prog 43 #[.pointer (some ⟨b, 0, none⟩), .pointer (some ⟨q, 0, none⟩)] W fun e W' => e = .returned (.int .i64 r.2) ∧ Blk W' b 25 (sideC r.1.me r.1.act r.1.term r.1.cyc r.1.img r.1.sil r.1.pat) ∧ W.grownBy W' (some b)

set_option maxHeartbeats 1600000 in
theorem with_Hear_bad (q : Nat) (me : Int) (act : Bool) (term cyc : Int) (A : Option Addr) (n c : Nat) (sil pat : Int) (w : World) (hok : standB me act term cyc n sil pat = false) :
    Calls Try.prog 38 #[sideV me act term cyc (.slice A n c) sil pat, .func (.func 43) #[] #[.pointer (some ⟨q, 0, none⟩)]] w fun e w' => FreshS w w' e (zeroS [], 15) := by
  have key : toldB me term cyc n = false ∨ toldB me term cyc n = true ∧ (inB pat 1 1000 = false ∨ inB pat 1 1000 = true ∧ (inB sil 0 (pat - 1) = false ∨ inB sil 0 (pat - 1) = true ∧ act = true ∧ 0 < sil)) := by
    cases h1 : toldB me term cyc n
    · exact .inl rfl
    · cases h2 : inB pat 1 1000
      · exact .inr ⟨rfl, .inl rfl⟩
      · cases h3 : inB sil 0 (pat - 1)
        · exact .inr ⟨rfl, .inr ⟨rfl, .inl rfl⟩⟩
        · simp [standB, h1, h2, h3] at hok
          exact .inr ⟨rfl, .inr ⟨rfl, .inr ⟨rfl, hok⟩⟩⟩
  clear hok
  rcases key with ht | ⟨ht, hp | ⟨hp, hs | ⟨hs, rfl, hsil⟩⟩⟩
  · have HT := Lib.hid ht
    clear ht
    go_enter Try.func38, Try.ntmps38
    go_wp2_with (go_at_call 44; refine (told_any _ _ _ _ _ _ _).mono ?_; rintro e w' ⟨rfl, rfl⟩; rw [HT.out])
    refine bodyPost_ret (v := .tuple #[((zeroS ([] : List Int)).set nilS).val, .int .i64 15]) ?_ rfl ?_
    · simp [results, Try.results38, go_sem, zeroS, SD.set, SD.val]
    · refine ⟨none, 0, rfl, World.ownsRow_nil _ _ _ _, ?_⟩
      repeat' (first | (with_reducible exact HB.out) | (with_reducible exact Below.refl _ _) | (with_reducible refine Below.setCell ?_ ?_ _; rotate_left; (simp <;> omega)) | (with_reducible refine Below.alloc ?_ ?_ _; rotate_left; (simp <;> omega)))
  · have HT := Lib.hid ht
    have HP := Lib.hid hp
    clear ht hp
    go_enter Try.func38, Try.ntmps38
    go_wp2_with (first | (go_at_call 44; refine (told_any _ _ _ _ _ _ _).mono ?_; rintro e w' ⟨rfl, rfl⟩; rw [HT.out]) | (go_at_call 34; refine (in_any _ _ _ _).mono ?_; rintro e w' ⟨rfl, rfl⟩; rw [HP.out]))
    refine bodyPost_ret (v := .tuple #[((zeroS ([] : List Int)).set nilS).val, .int .i64 15]) ?_ rfl ?_
    · simp [results, Try.results38, go_sem, zeroS, SD.set, SD.val]
    · refine ⟨none, 0, rfl, World.ownsRow_nil _ _ _ _, ?_⟩
      repeat' (first | (with_reducible exact HB.out) | (with_reducible exact Below.refl _ _) | (with_reducible refine Below.setCell ?_ ?_ _; rotate_left; (simp <;> omega)) | (with_reducible refine Below.alloc ?_ ?_ _; rotate_left; (simp <;> omega)))
  · have HT := Lib.hid ht
    have HP := Lib.hid hp
    have HS := Lib.hid hs
    obtain ⟨p1, p2⟩ := inB_iff.1 hp
    clear ht hp hs
    go_enter Try.func38, Try.ntmps38
    go_wp2_with (first | (go_at_call 44; refine (told_any _ _ _ _ _ _ _).mono ?_; rintro e w' ⟨rfl, rfl⟩; rw [HT.out]) | (go_at_call 34; refine (in_any _ _ _ _).mono ?_; rintro e w' ⟨rfl, rfl⟩; first | rw [HP.out] | rw [HS.out]))
    refine bodyPost_ret (v := .tuple #[((zeroS ([] : List Int)).set nilS).val, .int .i64 15]) ?_ rfl ?_
    · simp [results, Try.results38, go_sem, zeroS, SD.set, SD.val]
    · refine ⟨none, 0, rfl, World.ownsRow_nil _ _ _ _, ?_⟩
      repeat' (first | (with_reducible exact HB.out) | (with_reducible exact Below.refl _ _) | (with_reducible refine Below.setCell ?_ ?_ _; rotate_left; (simp <;> omega)) | (with_reducible refine Below.alloc ?_ ?_ _; rotate_left; (simp <;> omega)))
  · have HT := Lib.hid ht
    have HP := Lib.hid hp
    have HS := Lib.hid hs
    obtain ⟨p1, p2⟩ := inB_iff.1 hp
    clear ht hp hs
    go_enter Try.func38, Try.ntmps38
    go_wp2_with (first | (go_at_call 44; refine (told_any _ _ _ _ _ _ _).mono ?_; rintro e w' ⟨rfl, rfl⟩; rw [HT.out]) | (go_at_call 34; refine (in_any _ _ _ _).mono ?_; rintro e w' ⟨rfl, rfl⟩; first | rw [HP.out] | rw [HS.out]))
    refine bodyPost_ret (v := .tuple #[((zeroS ([] : List Int)).set nilS).val, .int .i64 15]) ?_ rfl ?_
    · simp [results, Try.results38, go_sem, zeroS, SD.set, SD.val]
    · refine ⟨none, 0, rfl, World.ownsRow_nil _ _ _ _, ?_⟩
      repeat' (first | (with_reducible exact HB.out) | (with_reducible exact Below.refl _ _) | (with_reducible refine Below.setCell ?_ ?_ _; rotate_left; (simp <;> omega)) | (with_reducible refine Below.alloc ?_ ?_ _; rotate_left; (simp <;> omega)))

set_option maxHeartbeats 1600000 in
theorem with_Hear_err (q : Nat) (me : Int) (act : Bool) (term cyc : Int) (A : Option Addr) (n c : Nat) (sil pat : Int) (e0 : Int) (zs : List Int) (w : World) (hok : standB me act term cyc n sil pat = true)
    (hr : Rd w 1 A n (ints zs)) (hn : n * 8 ≤ 140737488351232) (he : (e0 != 0) = true) (hstep : StepHear q w ⟨me, act, term, cyc, .slice A n c, sil, pat⟩ (⟨me, act, term, cyc, .slice A n c, sil, pat⟩, e0)) :
    Calls Try.prog 38 #[sideV me act term cyc (.slice A n c) sil pat, .func (.func 43) #[] #[.pointer (some ⟨q, 0, none⟩)]] w fun e w' => FreshS w w' e (⟨me, act, term, cyc, zs, sil, pat⟩, e0) := by
  obtain ⟨⟨b1, b2, b3, b4, b5, b6, b7⟩, b8, b9, b10, b11, b12⟩ := standB_iff.1 hok
  have HT := Lib.hid (toldB_iff.2 ⟨b1, b2, b3, b4, b5, b6, b7⟩)
  have HL := Lib.hid (rd_len hr)
  have HR := Lib.hid hr
  have HS := Lib.hid hstep
  have i1 := Lib.hid (inB_true b8 b9)
  have i2 := Lib.hid (inB_true b10 b11)
  have hsil : act = false ∨ act = true ∧ sil ≤ 0 := by cases act <;> simp_all
  clear hok hr hstep b12
  rcases hsil with rfl | ⟨rfl, hsil⟩
  all_goals go_enter Try.func38, Try.ntmps38
  all_goals go_wp2_with (first | (go_at_call 44; refine (told_any _ _ _ _ _ _ _).mono ?_; rintro e w' ⟨rfl, rfl⟩; rw [HT.out]) | (go_at_call 34; refine (in_any _ _ _ _).mono ?_; rintro e w' ⟨rfl, rfl⟩; first | rw [i1.out] | rw [i2.out]) | (go_at_call 43; refine (HS.out _ (w.heap.size + 2) (below3 _ _ _ _) (by omega) (Blk.new3 _ _ _ _ _ _ _)).mono ?_; rintro e w1 ⟨rfl, k3, hg⟩; obtain ⟨k1, k2, hb, hz1, hz2, hz3⟩ := after3g hg; have c1 := k1.cell; have c2 := k2.cell; have f1 := k1.frozen; have K1 := Lib.hid k1; have K2 := Lib.hid k2; have hb1 := Lib.hid hb; clear k1 k2 k3 hg hb) | (go_at_call 35; refine (Clone_any A n c zs _ (HR.out.below hb1.out) hn).mono ?_; rintro e w2 ⟨A1, d1, rfl, ho, hb⟩; have k1 := K1.out.below hb; have k2 := K2.out.below hb; have hs2 := hb.size; have hz4 := Nat.lt_of_lt_of_le hz1 hs2; have hz5 := Nat.lt_of_lt_of_le hz2 hs2; have HO := Lib.hid (own_lift ho (Nat.le_of_lt hz3)); have HB := Lib.hid (hb1.out.trans (hb.mono (Nat.le_of_lt hz1))); clear hb ho c1 c2 f1; have c1 := k1.cell; have c2 := k2.cell; have f1 := k1.frozen; have f2 := k2.frozen; clear k1 k2))
  · refine bodyPost_ret (v := .tuple #[((⟨me, false, term, cyc, zs, sil, pat⟩ : SD (List Int)).set (Value.slice A1 n d1)).val, .int .i64 e0]) ?_ rfl ?_
    · simp [results, Try.results38, go_sem, SD.set, SD.val, c2]
    · have hL := HL.out
      subst hL
      refine ⟨A1, d1, rfl, ?_, ?_⟩
      · refine own_lift (b := w.heap.size + 2) ?_ (by omega)
        repeat' (first | (with_reducible exact HO.out) | (with_reducible refine ownsRow_setCell_below ?_ ?_ _; rotate_left; (simp <;> omega)))
      · repeat' (first | (with_reducible exact HB.out) | (with_reducible exact Below.refl _ _) | (with_reducible refine Below.setCell ?_ ?_ _; rotate_left; (simp <;> omega)) | (with_reducible refine Below.alloc ?_ ?_ _; rotate_left; (simp <;> omega)))
  · refine bodyPost_ret (v := .tuple #[((⟨me, true, term, cyc, zs, sil, pat⟩ : SD (List Int)).set (Value.slice A1 n d1)).val, .int .i64 e0]) ?_ rfl ?_
    · simp [results, Try.results38, go_sem, SD.set, SD.val, c2]
    · have hL := HL.out
      subst hL
      refine ⟨A1, d1, rfl, ?_, ?_⟩
      · refine own_lift (b := w.heap.size + 2) ?_ (by omega)
        repeat' (first | (with_reducible exact HO.out) | (with_reducible refine ownsRow_setCell_below ?_ ?_ _; rotate_left; (simp <;> omega)))
      · repeat' (first | (with_reducible exact HB.out) | (with_reducible exact Below.refl _ _) | (with_reducible refine Below.setCell ?_ ?_ _; rotate_left; (simp <;> omega)) | (with_reducible refine Below.alloc ?_ ?_ _; rotate_left; (simp <;> omega)))

set_option maxHeartbeats 1600000 in
theorem with_Hear_ok (q : Nat) (me : Int) (act : Bool) (term cyc : Int) (A : Option Addr) (n c : Nat) (sil pat : Int) (me' : Int) (act' : Bool) (term' cyc' : Int) (A' : Option Addr) (n' c' : Nat) (sil' pat' : Int) (zs : List Int) (w : World) (hok : standB me act term cyc n sil pat = true)
    (hr : Rd w 1 A' n' (ints zs)) (hn : n' * 8 ≤ 140737488351232) (hstep : StepHear q w ⟨me, act, term, cyc, .slice A n c, sil, pat⟩ (⟨me', act', term', cyc', .slice A' n' c', sil', pat'⟩, 0)) :
    Calls Try.prog 38 #[sideV me act term cyc (.slice A n c) sil pat, .func (.func 43) #[] #[.pointer (some ⟨q, 0, none⟩)]] w fun e w' => FreshS w w' e (⟨me', act', term', cyc', zs, sil', pat'⟩, 0) := by
  obtain ⟨⟨b1, b2, b3, b4, b5, b6, b7⟩, b8, b9, b10, b11, b12⟩ := standB_iff.1 hok
  have HT := Lib.hid (toldB_iff.2 ⟨b1, b2, b3, b4, b5, b6, b7⟩)
  have HL := Lib.hid (rd_len hr)
  have HR := Lib.hid hr
  have HS := Lib.hid hstep
  have i1 := Lib.hid (inB_true b8 b9)
  have i2 := Lib.hid (inB_true b10 b11)
  have hsil : act = false ∨ act = true ∧ sil ≤ 0 := by cases act <;> simp_all
  clear hok hr hstep b12
  rcases hsil with rfl | ⟨rfl, hsil⟩
  all_goals go_enter Try.func38, Try.ntmps38
  all_goals go_wp2_with (first | (go_at_call 44; refine (told_any _ _ _ _ _ _ _).mono ?_; rintro e w' ⟨rfl, rfl⟩; rw [HT.out]) | (go_at_call 34; refine (in_any _ _ _ _).mono ?_; rintro e w' ⟨rfl, rfl⟩; first | rw [i1.out] | rw [i2.out]) | (go_at_call 43; refine (HS.out _ (w.heap.size + 2) (below3 _ _ _ _) (by omega) (Blk.new3 _ _ _ _ _ _ _)).mono ?_; rintro e w1 ⟨rfl, k3, hg⟩; obtain ⟨k1, k2, hb, hz1, hz2, hz3⟩ := after3g hg; have c1 := k1.cell; have c2 := k2.cell; have c3 := k3.cell; have K2 := Lib.hid k2; have K3 := Lib.hid k3; have hb1 := Lib.hid hb; clear k1 k2 k3 hg hb) | (go_at_call 35; refine (Clone_any A' n' c' zs _ (HR.out.below hb1.out) hn).mono ?_; rintro e w2 ⟨A1, d1, rfl, ho, hb⟩; have k3 := K3.out.below hb; have k2 := K2.out.below hb; have hs2 := hb.size; have hz4 := Nat.lt_of_lt_of_le hz1 hs2; have hz6 := Nat.lt_of_lt_of_le hz3 hs2; have hz5 := Nat.lt_of_lt_of_le hz2 hs2; have HO := Lib.hid (own_lift ho (Nat.succ_le_of_lt hz3)); have HB := Lib.hid (hb1.out.trans (hb.mono (Nat.le_of_lt hz1))); clear hb ho c1 c2 c3; have c3 := k3.cell; have c2 := k2.cell; have f3 := k3.frozen; have f2 := k2.frozen; clear k3 k2))
  all_goals
    refine bodyPost_ret (v := .tuple #[((⟨me', act', term', cyc', zs, sil', pat'⟩ : SD (List Int)).set (Value.slice A1 n' d1)).val, .int .i64 0]) ?_ rfl ?_
    · simp [results, Try.results38, go_sem, SD.set, SD.val, c2]
    · have hL := HL.out
      subst hL
      refine ⟨A1, d1, rfl, ?_, ?_⟩
      · refine own_lift (b := w.heap.size + 2 + 1) ?_ (by omega)
        repeat' (first | (with_reducible exact HO.out) | (with_reducible refine ownsRow_setCell_below ?_ ?_ _; rotate_left; (simp <;> omega)))
      · repeat' (first | (with_reducible exact HB.out) | (with_reducible exact Below.refl _ _) | (with_reducible refine Below.setCell ?_ ?_ _; rotate_left; (simp <;> omega)) | (with_reducible refine Below.alloc ?_ ?_ _; rotate_left; (simp <;> omega)))

end Go.Proofs.Ytlccpnloankloaa.Pair
