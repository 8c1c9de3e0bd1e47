/-
  Contracts of the reference's pair: what each call answers. No conditions.
-/
import Derived.Test.YtlccpnloankloaaPair1
namespace Go.Proofs.Ytlccpnloankloaa.Pair
open Go.RowKit Go.Proofs.Ytlccpnloankloaa.W Go.Proofs.Ytlccpnloankloaa.Ints

structure SD (α : Type) where
  me : Int
  act : Bool
  term : Int
  cyc : Int
  img : α
  sil : Int
  pat : Int
structure BD (α : Type) where
  me : Int
  term : Int
  cyc : Int
  img : α
def SD.val (s : SD Value) : Value := sideV s.me s.act s.term s.cyc s.img s.sil s.pat
def BD.val (s : BD Value) : Value := beatV s.me s.term s.cyc s.img
def zeroS {α : Type} (nil : α) : SD α := ⟨0, false, 0, 0, nil, 0, 0⟩
def zeroB {α : Type} (nil : α) : BD α := ⟨0, 0, 0, nil⟩
def SD.ok {α : Type} (s : SD α) (n : Nat) : Bool := standB s.me s.act s.term s.cyc n s.sil s.pat

def sidedF {α : Type} (nil : α) (me pat : Int) (x : α) (n : Nat) : SD α × Int :=
  if 0 ≤ me ∧ me ≤ 1 ∧ 1 ≤ pat ∧ pat ≤ 1000 then (if n ≤ 20000 then (⟨me, me == 0, 0, 0, x, 0, pat⟩, 0) else (zeroS nil, 4)) else (zeroS nil, 3)
def sentF {α : Type} (nil : α) (s : SD α) (n : Nat) : BD α × Int :=
  if s.ok n then (if s.act then (⟨s.me, s.term, s.cyc, s.img⟩, 0) else (zeroB nil, 18)) else (zeroB nil, 15)
def waitedF {α : Type} (nil : α) (s : SD α) (n : Nat) : SD α × Int :=
  if s.ok n then (if s.act then (s, 0) else if s.sil + 1 < s.pat then ({ s with sil := s.sil + 1 }, 0) else if s.term = 1000000 then (s, 14) else ({ s with act := true, term := s.term + 1, sil := 0 }, 0)) else (zeroS nil, 15)
def cycledF {α : Type} (nil : α) (s : SD α) (n : Nat) (x : α) (m : Nat) : SD α × Int :=
  if s.ok n then (if s.act then (if m ≤ 20000 then (if s.cyc = 999999999 then (s, 14) else ({ s with cyc := s.cyc + 1, img := x }, 0)) else (s, 4)) else (s, 18)) else (zeroS nil, 15)
def oldP {α : Type} (s : SD α) (bt bc : Int) : Prop := bt = s.term ∧ (s.act = true ∧ s.me = 0 ∨ s.act = false ∧ bc < s.cyc)
instance {α : Type} (s : SD α) (bt bc : Int) : Decidable (oldP s bt bc) := by unfold oldP; infer_instance
def heededF {α : Type} (nil : α) (s : SD α) (n : Nat) (bf bt bc : Int) (x : α) (m : Nat) : SD α × Int :=
  if s.ok n then (if toldB bf bt bc m then (if bf = s.me then (s, 6) else if bt < s.term then (s, 18) else if oldP s bt bc then (s, 18) else
    (⟨s.me, false, bt, bc, x, 0, s.pat⟩, 0)) else (s, 3)) else (zeroS nil, 15)

abbrev nilS : Value := .slice none 0 0

set_option maxHeartbeats 400000 in
theorem Sided_any (me pat : Int) (A : Option Addr) (n c : Nat) (w : World) :
    Calls Try.prog 11 #[.int .i64 me, .int .i64 pat, .slice A n c] w fun e w' =>
      e = .returned (.tuple #[(sidedF nilS me pat (.slice A n c) n).1.val, .int .i64 (sidedF nilS me pat (.slice A n c) n).2]) ∧ Below w.heap.size w w' := by
  go_enter Try.func11, Try.ntmps11
  go_wp2
  all_goals refine bodyPost_ret (v := .tuple #[(sidedF nilS me pat (.slice A n c) n).1.val, .int .i64 (sidedF nilS me pat (.slice A n c) n).2]) ?_ rfl ⟨rfl, (Below.refl _ _).alloc (Nat.le_refl _) _⟩
  all_goals simp [results, Try.results11, go_sem]
  all_goals (simp only [sidedF]; repeat' split)
  all_goals first | (exfalso; omega) | (simp [SD.val, zeroS]; done)

/-- what stays behind a call that only makes memory -/
theorem bel {w w' : World} (h : Below w.heap.size w w') :
    (∀ b o, b < w.heap.size → w'.cell? ⟨b, o, none⟩ = w.cell? ⟨b, o, none⟩) ∧ (∀ b o, b < w.heap.size → w'.frozen? ⟨b, o, none⟩ = w.frozen? ⟨b, o, none⟩) ∧ w.heap.size ≤ w'.heap.size :=
  ⟨fun b o hb => h.cell (p := ⟨b, o, none⟩) hb, fun b o hb => h.frozen (p := ⟨b, o, none⟩) hb, h.size⟩

set_option maxHeartbeats 1600000 in
theorem Sent_any (me : Int) (act : Bool) (term cyc : Int) (A : Option Addr) (n c : Nat) (sil pat : Int) (w : World) :
    Calls Try.prog 15 #[sideV me act term cyc (.slice A n c) sil pat] w fun e w' =>
      e = .returned (.tuple #[(sentF nilS ⟨me, act, term, cyc, .slice A n c, sil, pat⟩ n).1.val, .int .i64 (sentF nilS ⟨me, act, term, cyc, .slice A n c, sil, pat⟩ n).2]) ∧ Below w.heap.size w w' := by
  cases hok : (⟨me, act, term, cyc, Value.slice A n c, sil, pat⟩ : SD Value).ok n
  · have hF : sentF nilS ⟨me, act, term, cyc, .slice A n c, sil, pat⟩ n = (zeroB nilS, 15) := by simp [sentF, hok]
    rw [hF]
    have HK := Lib.hid hok
    clear hok hF
    go_enter Try.func15, Try.ntmps15
    go_wp2_with (go_at_call 37; refine (MayStand_any _ _ _ _ _ _ _ _ _ _).mono ?_; rintro e w' ⟨rfl, hb⟩; rw [show standB me _ term cyc n sil pat = _ from HK.out]; obtain ⟨k1, k2, hb, hz1, hz2⟩ := call2 hb; have c1 := k1.cell; have c2 := k2.cell; have f1 := k1.frozen; have f2 := k2.frozen; clear k1 k2; have HB := Lib.hid hb; clear hb)
    refine bodyPost_ret (v := .tuple #[(zeroB nilS).val, .int .i64 15]) ?_ rfl ?_
    · simp [results, Try.results15, go_sem, c2, zeroB, BD.val]
    · refine ⟨rfl, ?_⟩
      repeat' (first | (with_reducible exact HB.out) | (with_reducible refine Below.setCell ?_ ?_ _; rotate_left; (simp <;> omega)) | (with_reducible refine Below.alloc ?_ ?_ _; rotate_left; (simp; omega)))
  · obtain ⟨⟨b1, b2, b3, b4, b5, b6, b7⟩, b8, b9, b10, b11, b12⟩ := standB_iff.1 hok
    have HK := Lib.hid hok
    have B12 := Lib.hid b12
    clear hok b12
    cases act
    all_goals go_enter Try.func15, Try.ntmps15
    all_goals go_wp2_with (go_at_call 37; refine (MayStand_any _ _ _ _ _ _ _ _ _ _).mono ?_; rintro e w' ⟨rfl, hb⟩; rw [show standB me _ term cyc n sil pat = _ from HK.out]; obtain ⟨k1, k2, hb, hz1, hz2⟩ := call2 hb; have c1 := k1.cell; have c2 := k2.cell; have f1 := k1.frozen; have f2 := k2.frozen; clear k1 k2; have HB := Lib.hid hb; clear hb)
    all_goals
      first | refine bodyPost_ret (v := .tuple #[(sentF nilS ⟨me, false, term, cyc, .slice A n c, sil, pat⟩ n).1.val, .int .i64 (sentF nilS ⟨me, false, term, cyc, .slice A n c, sil, pat⟩ n).2]) ?_ rfl (And.intro rfl ?_) | refine bodyPost_ret (v := .tuple #[(sentF nilS ⟨me, true, term, cyc, .slice A n c, sil, pat⟩ n).1.val, .int .i64 (sentF nilS ⟨me, true, term, cyc, .slice A n c, sil, pat⟩ n).2]) ?_ rfl (And.intro rfl ?_)
      · simp [results, Try.results15, go_sem, c2]
        simp only [sentF, HK.out, if_true]
        simp at *
        (repeat' split)
        all_goals first | (exfalso; omega) | (simp [BD.val]; done) | (simp [BD.val, zeroB]; done) | trace_state
      · repeat' (first | (with_reducible exact HB.out) | (with_reducible refine Below.setCell ?_ ?_ _; rotate_left; (simp <;> omega)) | (with_reducible refine Below.alloc ?_ ?_ _; rotate_left; (simp; omega)))

set_option maxHeartbeats 1600000 in
theorem Waited_any (me : Int) (act : Bool) (term cyc : Int) (A : Option Addr) (n c : Nat) (sil pat : Int) (w : World) :
    Calls Try.prog 22 #[sideV me act term cyc (.slice A n c) sil pat] w fun e w' =>
      e = .returned (.tuple #[(waitedF nilS ⟨me, act, term, cyc, .slice A n c, sil, pat⟩ n).1.val, .int .i64 (waitedF nilS ⟨me, act, term, cyc, .slice A n c, sil, pat⟩ n).2]) ∧ Below w.heap.size w w' := by
  cases hok : (⟨me, act, term, cyc, Value.slice A n c, sil, pat⟩ : SD Value).ok n
  · have hF : waitedF nilS ⟨me, act, term, cyc, .slice A n c, sil, pat⟩ n = (zeroS nilS, 15) := by simp [waitedF, hok]
    rw [hF]
    have HK := Lib.hid hok
    clear hok hF
    go_enter Try.func22, Try.ntmps22
    go_wp2_with (go_at_call 37; refine (MayStand_any _ _ _ _ _ _ _ _ _ _).mono ?_; rintro e w' ⟨rfl, hb⟩; rw [show standB me _ term cyc n sil pat = _ from HK.out]; obtain ⟨k1, k2, hb, hz1, hz2⟩ := call2 hb; have c1 := k1.cell; have c2 := k2.cell; have f1 := k1.frozen; have f2 := k2.frozen; clear k1 k2; have HB := Lib.hid hb; clear hb)
    refine bodyPost_ret (v := .tuple #[(zeroS nilS).val, .int .i64 15]) ?_ rfl ?_
    · simp [results, Try.results22, go_sem, c2, zeroS, SD.val]
    · refine ⟨rfl, ?_⟩
      repeat' (first | (with_reducible exact HB.out) | (with_reducible refine Below.setCell ?_ ?_ _; rotate_left; (simp <;> omega)) | (with_reducible refine Below.alloc ?_ ?_ _; rotate_left; (simp; omega)))
  · obtain ⟨⟨b1, b2, b3, b4, b5, b6, b7⟩, b8, b9, b10, b11, b12⟩ := standB_iff.1 hok
    have HK := Lib.hid hok
    have B12 := Lib.hid b12
    clear hok b12
    cases act
    all_goals go_enter Try.func22, Try.ntmps22
    all_goals go_wp2_with (go_at_call 37; refine (MayStand_any _ _ _ _ _ _ _ _ _ _).mono ?_; rintro e w' ⟨rfl, hb⟩; rw [show standB me _ term cyc n sil pat = _ from HK.out]; obtain ⟨k1, k2, hb, hz1, hz2⟩ := call2 hb; have c1 := k1.cell; have c2 := k2.cell; have f1 := k1.frozen; have f2 := k2.frozen; clear k1 k2; have HB := Lib.hid hb; clear hb)
    all_goals
      first | refine bodyPost_ret (v := .tuple #[(waitedF nilS ⟨me, false, term, cyc, .slice A n c, sil, pat⟩ n).1.val, .int .i64 (waitedF nilS ⟨me, false, term, cyc, .slice A n c, sil, pat⟩ n).2]) ?_ rfl (And.intro rfl ?_) | refine bodyPost_ret (v := .tuple #[(waitedF nilS ⟨me, true, term, cyc, .slice A n c, sil, pat⟩ n).1.val, .int .i64 (waitedF nilS ⟨me, true, term, cyc, .slice A n c, sil, pat⟩ n).2]) ?_ rfl (And.intro rfl ?_)
      · simp [results, Try.results22, go_sem, c2, hz2]
        simp only [waitedF, HK.out, if_true]
        simp at *
        (repeat' split)
        all_goals first | (exfalso; omega) | (simp [SD.val]; done) | (simp [SD.val, zeroS]; done) | trace_state
      · repeat' (first | (with_reducible exact HB.out) | (with_reducible refine Below.setCell ?_ ?_ _; rotate_left; (simp <;> omega)) | (with_reducible refine Below.alloc ?_ ?_ _; rotate_left; (simp; omega)))

set_option maxHeartbeats 1600000 in
theorem Cycled_any (me : Int) (act : Bool) (term cyc : Int) (A : Option Addr) (n c : Nat) (sil pat : Int) (B : Option Addr) (m d : Nat) (w : World) :
    Calls Try.prog 20 #[sideV me act term cyc (.slice A n c) sil pat, .slice B m d] w fun e w' =>
      e = .returned (.tuple #[(cycledF nilS ⟨me, act, term, cyc, .slice A n c, sil, pat⟩ n (.slice B m d) m).1.val, .int .i64 (cycledF nilS ⟨me, act, term, cyc, .slice A n c, sil, pat⟩ n (.slice B m d) m).2]) ∧ Below w.heap.size w w' := by
  cases hok : (⟨me, act, term, cyc, Value.slice A n c, sil, pat⟩ : SD Value).ok n
  · have hF : cycledF nilS ⟨me, act, term, cyc, .slice A n c, sil, pat⟩ n (.slice B m d) m = (zeroS nilS, 15) := by simp [cycledF, hok]
    rw [hF]
    have HK := Lib.hid hok
    clear hok hF
    go_enter Try.func20, Try.ntmps20
    go_wp2_with (go_at_call 37; refine (MayStand_any _ _ _ _ _ _ _ _ _ _).mono ?_; rintro e w' ⟨rfl, hb⟩; rw [show standB me _ term cyc n sil pat = _ from HK.out]; obtain ⟨k1, k2, hb, hz1, hz2⟩ := call2 hb; have c1 := k1.cell; have c2 := k2.cell; have f1 := k1.frozen; have f2 := k2.frozen; clear k1 k2; have HB := Lib.hid hb; clear hb)
    refine bodyPost_ret (v := .tuple #[(zeroS nilS).val, .int .i64 15]) ?_ rfl ?_
    · simp [results, Try.results20, go_sem, c2, zeroS, SD.val]
    · refine ⟨rfl, ?_⟩
      repeat' (first | (with_reducible exact HB.out) | (with_reducible refine Below.setCell ?_ ?_ _; rotate_left; (simp <;> omega)) | (with_reducible refine Below.alloc ?_ ?_ _; rotate_left; (simp; omega)))
  · obtain ⟨⟨b1, b2, b3, b4, b5, b6, b7⟩, b8, b9, b10, b11, b12⟩ := standB_iff.1 hok
    have HK := Lib.hid hok
    have B12 := Lib.hid b12
    clear hok b12
    cases act
    all_goals go_enter Try.func20, Try.ntmps20
    all_goals go_wp2_with (go_at_call 37; refine (MayStand_any _ _ _ _ _ _ _ _ _ _).mono ?_; rintro e w' ⟨rfl, hb⟩; rw [show standB me _ term cyc n sil pat = _ from HK.out]; obtain ⟨k1, k2, hb, hz1, hz2⟩ := call2 hb; have c1 := k1.cell; have c2 := k2.cell; have f1 := k1.frozen; have f2 := k2.frozen; clear k1 k2; have HB := Lib.hid hb; clear hb)
    all_goals
      first | refine bodyPost_ret (v := .tuple #[(cycledF nilS ⟨me, false, term, cyc, .slice A n c, sil, pat⟩ n (.slice B m d) m).1.val, .int .i64 (cycledF nilS ⟨me, false, term, cyc, .slice A n c, sil, pat⟩ n (.slice B m d) m).2]) ?_ rfl (And.intro rfl ?_) | refine bodyPost_ret (v := .tuple #[(cycledF nilS ⟨me, true, term, cyc, .slice A n c, sil, pat⟩ n (.slice B m d) m).1.val, .int .i64 (cycledF nilS ⟨me, true, term, cyc, .slice A n c, sil, pat⟩ n (.slice B m d) m).2]) ?_ rfl (And.intro rfl ?_)
      · simp [results, Try.results20, go_sem, c2]
        simp only [cycledF, HK.out, if_true]
        simp at *
        (repeat' split)
        all_goals first | (exfalso; omega) | (simp [SD.val]; done) | (simp [SD.val, zeroS]; done) | trace_state
      · repeat' (first | (with_reducible exact HB.out) | (with_reducible refine Below.setCell ?_ ?_ _; rotate_left; (simp <;> omega)) | (with_reducible refine Below.alloc ?_ ?_ _; rotate_left; (simp; omega)))

set_option maxHeartbeats 1600000 in
theorem Heeded_any (me : Int) (act : Bool) (term cyc : Int) (A : Option Addr) (n c : Nat) (sil pat : Int) (bf bt bc : Int) (B : Option Addr) (m d : Nat) (w : World) :
    Calls Try.prog 25 #[sideV me act term cyc (.slice A n c) sil pat, beatV bf bt bc (.slice B m d)] w fun e w' =>
      e = .returned (.tuple #[(heededF nilS ⟨me, act, term, cyc, .slice A n c, sil, pat⟩ n bf bt bc (.slice B m d) m).1.val, .int .i64 (heededF nilS ⟨me, act, term, cyc, .slice A n c, sil, pat⟩ n bf bt bc (.slice B m d) m).2]) ∧ Below w.heap.size w w' := by
  cases hok : (⟨me, act, term, cyc, Value.slice A n c, sil, pat⟩ : SD Value).ok n
  · have hF : heededF nilS ⟨me, act, term, cyc, .slice A n c, sil, pat⟩ n bf bt bc (.slice B m d) m = (zeroS nilS, 15) := by simp [heededF, hok]
    rw [hF]
    have HK := Lib.hid hok
    clear hok hF
    go_enter Try.func25, Try.ntmps25
    go_wp2_with (first | (go_at_call 37; refine (MayStand_any _ _ _ _ _ _ _ _ _ _).mono ?_; rintro e w' ⟨rfl, hb⟩; rw [show standB me _ term cyc n sil pat = _ from HK.out]; obtain ⟨k1, k2, k3, hb, hz1, hz2, hz3⟩ := call3 hb; have c1 := k1.cell; have c2 := k2.cell; have c3 := k3.cell; have f1 := k1.frozen; have f2 := k2.frozen; have f3 := k3.frozen; clear k1 k2 k3; have HB := Lib.hid hb; clear hb) | (go_at_call 42; refine (MayTell_any _ _ _ _ _ _ _).mono ?_; rintro e w' ⟨rfl, rfl⟩; rw [HT.out]))
    refine bodyPost_ret (v := .tuple #[(zeroS nilS).val, .int .i64 15]) ?_ rfl ?_
    · simp [results, Try.results25, go_sem, c3, zeroS, SD.val]
    · refine ⟨rfl, ?_⟩
      repeat' (first | (with_reducible exact HB.out) | (with_reducible refine Below.setCell ?_ ?_ _; rotate_left; (simp <;> omega)) | (with_reducible refine Below.alloc ?_ ?_ _; rotate_left; (simp; omega)))
  · obtain ⟨⟨b1, b2, b3, b4, b5, b6, b7⟩, b8, b9, b10, b11, b12⟩ := standB_iff.1 hok
    have HK := Lib.hid hok
    have B12 := Lib.hid b12
    clear hok b12
    cases act
    all_goals cases ht : toldB bf bt bc m
    all_goals have HT := Lib.hid ht
    all_goals clear ht
    all_goals go_enter Try.func25, Try.ntmps25
    all_goals go_wp2_with (first | (go_at_call 37; refine (MayStand_any _ _ _ _ _ _ _ _ _ _).mono ?_; rintro e w' ⟨rfl, hb⟩; rw [show standB me _ term cyc n sil pat = _ from HK.out]; obtain ⟨k1, k2, k3, hb, hz1, hz2, hz3⟩ := call3 hb; have c1 := k1.cell; have c2 := k2.cell; have c3 := k3.cell; have f1 := k1.frozen; have f2 := k2.frozen; have f3 := k3.frozen; clear k1 k2 k3; have HB := Lib.hid hb; clear hb) | (go_at_call 42; refine (MayTell_any _ _ _ _ _ _ _).mono ?_; rintro e w' ⟨rfl, rfl⟩; rw [HT.out]))
    all_goals
      first | refine bodyPost_ret (v := .tuple #[(heededF nilS ⟨me, false, term, cyc, .slice A n c, sil, pat⟩ n bf bt bc (.slice B m d) m).1.val, .int .i64 (heededF nilS ⟨me, false, term, cyc, .slice A n c, sil, pat⟩ n bf bt bc (.slice B m d) m).2]) ?_ rfl (And.intro rfl ?_) | refine bodyPost_ret (v := .tuple #[(heededF nilS ⟨me, true, term, cyc, .slice A n c, sil, pat⟩ n bf bt bc (.slice B m d) m).1.val, .int .i64 (heededF nilS ⟨me, true, term, cyc, .slice A n c, sil, pat⟩ n bf bt bc (.slice B m d) m).2]) ?_ rfl (And.intro rfl ?_)
      · simp [results, Try.results25, go_sem, c3]
        simp only [heededF, HK.out, if_true, HT.out, oldP]
        simp at *
        (repeat' split)
        all_goals first | (exfalso; omega) | (simp [SD.val]; done) | (simp [SD.val, zeroS]; done) | trace_state
      · repeat' (first | (with_reducible exact HB.out) | (with_reducible refine Below.setCell ?_ ?_ _; rotate_left; (simp <;> omega)) | (with_reducible refine Below.alloc ?_ ?_ _; rotate_left; (simp; omega)))
end Go.Proofs.Ytlccpnloankloaa.Pair
