/-
  Whether a list of slots holds what is asked; the program's may. Conditions: the lists read; what is asked answers.
-/
import Derived.Test.YtnalabohhocjaaaChg4
namespace Go.Proofs.Ytnalabohhocjaaa.Chg
open Go.RowKit Go.Proofs.Ytnalabohhocjaaa.W Go.Proofs.Ytnalabohhocjaaa.Ints Go.Proofs.Ytnalabohhocjaaa.Cod

def findF (f : SL → Bool) (l : List SL) : Int := match l.findIdx? f with | some k => (k : Int) | none => -1
theorem find_at {f : SL → Bool} {l : List SL} {k : Nat} {s : SL} (hs : l[k]? = some s) (ha : (l.take k).any f = false) (hf : f s = true) : findF f l = k := by
  have hk := (List.getElem?_eq_some_iff.1 hs)
  obtain ⟨hk, he⟩ := hk
  have : l.findIdx? f = some k := by
    rw [List.findIdx?_eq_some_iff_getElem]
    refine ⟨hk, by rw [he]; exact hf, fun j hj => ?_⟩
    rw [List.any_eq_false] at ha
    exact ha _ (List.mem_take_iff_getElem.2 ⟨j, by omega, rfl⟩)
  simp [findF, this]
theorem find_no {f : SL → Bool} {l : List SL} (ha : l.any f = false) : findF f l = -1 := by
  have : l.findIdx? f = none := by
    rw [List.findIdx?_eq_none_iff]
    intro x hx
    rw [List.any_eq_false] at ha
    simpa using ha x hx
  simp [findF, this]
theorem find_any (f : SL → Bool) (l : List SL) : decide (0 ≤ findF f l) = l.any f := by
  cases h : l.any f with
  | false => rw [find_no h]; rfl
  | true =>
    unfold findF
    cases h2 : l.findIdx? f with
    | none =>
      rw [List.findIdx?_eq_none_iff] at h2
      rw [List.any_eq_true] at h
      obtain ⟨x, hx, hf⟩ := h
      simp [h2 x hx] at hf
    | some k => simp
theorem any_more {f : SL → Bool} {l : List SL} {k : Nat} {s : SL} (hs : l[k]? = some s) (ha : (l.take k).any f = false) (hf : f s = false) : (l.take (k + 1)).any f = false := by
  rw [List.take_add_one, hs, List.any_append, ha]
  simp [hf]
theorem any_not (f : SL → Bool) (l : List SL) : (l.any fun s => !f s) = !l.all f := by
  induction l with
  | nil => rfl
  | cons a t ih => simp only [List.any_cons, List.all_cons, ih, Bool.not_and]

set_option maxHeartbeats 6400000 in
theorem IndexFunc_slots (f : SL → Bool) (q : Nat) (A : Option Addr) (n c : Nat) (l : List SL) (w : World) (hr : Rd w 6 A n (slotsV l)) (hn : n ≤ 20000)
    (hf : ∀ s ∈ l, ∀ w', Below w.heap.size w w' → Calls Try.prog 25 #[SL.val s, .pointer (some ⟨q, 0, none⟩)] w' fun e w'' => e = .returned (.bool (f s)) ∧ Below w'.heap.size w' w'') :
    Calls Try.prog 27 #[.slice A n c, .func (.func 25) #[] #[.pointer (some ⟨q, 0, none⟩)]] w fun e w' => e = .returned (.int .i64 (findF f l)) ∧ Below w.heap.size w w' := by
  have HL := Lib.hid (Rd.rec_len SL.size (by omega) hr)
  have HR := Lib.hid hr
  have HF := Lib.hid hf
  obtain ⟨R, hR⟩ : ∃ R, findF f l = R := ⟨_, rfl⟩
  rw [hR]
  have HV := Lib.hid hR
  clear hr hf hR
  go_enter Try.func27, Try.ntmps27
  go_wp2
  have HB := Lib.hid (Below.refl w.heap.size w)
  go_loopw [5, 8] (fun _ i wr => ∃ k : Nat, k ≤ n ∧ i = .int .i64 k ∧ Hid ((l.take k).any f = false) ∧ Hid (Below w.heap.size w wr)) (fun _ i _ => n - (intOf i).toNat)
  case atStart => exact ⟨0, Nat.zero_le _, rfl, by simp [Hid], HB⟩
  case round =>
    clear HB
    obtain ⟨k, hk, rfl, ha, HB⟩ := hrel
    by_cases hlt : k < n
    · obtain ⟨b, o, s, rfl, hs, hbl, c0, c1, c2, c3, c4, c5⟩ := slot_at (HR.out.below HB.out) hlt
      have hk0 : (0 : Int) ≤ (k : Int) := by omega
      have hkn : (k : Int) < (n : Int) := by omega
      have HC := Lib.hid (HF.out s (List.mem_of_getElem? hs) wr HB.out)
      have HS := Lib.hid hs
      obtain ⟨B, ho⟩ : ∃ B, f s = B := ⟨_, rfl⟩
      rw [ho] at HC
      have HO := Lib.hid ho
      clear ho hs
      go_wp2_with fail
      refine HC.out.mono ?_
      rintro e w1 ⟨rfl, hb1⟩
      have HB1 := Lib.hid (HB.out.trans (hb1.mono HB.out.size))
      clear hb1 HB c0 c1 c2 c3 c4 c5 hbl
      cases B
      · go_wp2
        go_roundw
        case rel => exact ⟨k + 1, by omega, by go_num, any_more HS.out ha.out HO.out, HB1⟩
        case measure => simp [intOf]; omega
      · have e3 : R = k := HV.out.symm.trans (find_at HS.out ha.out HO.out)
        have E3 := Lib.hid e3
        clear e3
        go_wp2
        go_ret
        exact ⟨ret_int (by rw [E3.out]), HB1.out⟩
    · have hf : R = -1 := by
        have h := ha.out
        rw [List.take_of_length_le (by rw [HL.out]; omega)] at h
        exact HV.out.symm.trans (find_no h)
      have HF := Lib.hid hf
      clear hf
      go_wp2
      go_ret
      exact ⟨ret_int (by rw [HF.out]), HB.out⟩

theorem ContainsFunc_slots (f : SL → Bool) (q : Nat) (A : Option Addr) (n c : Nat) (l : List SL) (w : World) (hr : Rd w 6 A n (slotsV l)) (hn : n ≤ 20000)
    (hf : ∀ s ∈ l, ∀ w', Below w.heap.size w w' → Calls Try.prog 25 #[SL.val s, .pointer (some ⟨q, 0, none⟩)] w' fun e w'' => e = .returned (.bool (f s)) ∧ Below w'.heap.size w' w'') :
    Calls Try.prog 24 #[.slice A n c, .func (.func 25) #[] #[.pointer (some ⟨q, 0, none⟩)]] w fun e w' => e = .returned (.bool (l.any f)) ∧ Below w.heap.size w w' := by
  have HC := Lib.hid (IndexFunc_slots f q A n c l w hr hn hf)
  have HE := Lib.hid (find_any f l)
  obtain ⟨R, hR⟩ : ∃ R, findF f l = R := ⟨_, rfl⟩
  obtain ⟨B, hB⟩ : ∃ B, l.any f = B := ⟨_, rfl⟩
  rw [hR, hB] at HE
  rw [hR] at HC
  rw [hB]
  clear hr hf hR hB
  go_enter Try.func24, Try.ntmps24
  go_wp2_with fail
  refine HC.out.mono ?_
  rintro e w1 ⟨rfl, hb⟩
  have HB := Lib.hid hb
  clear hb
  go_wp2
  go_ret
  exact ⟨ret_bool HE.out, HB.out⟩

set_option maxRecDepth 100000 in
set_option maxHeartbeats 6400000 in
theorem may_any (v : PV) (p : PD) (w : World) (hr : PRd w v p) (hok : p.ok) :
    Calls Try.prog 16 #[v.val] w fun e w' => e = .returned (.bool (carrB p)) ∧ Below w.heap.size w w' := by
  have HR := Lib.hid hr
  have HOK := Lib.hid hok
  have q1 := hr.fl
  have q2 := hr.sl
  obtain ⟨vk, vname, fA, fn, fc, sA, sn, sc, tA, tn, tc⟩ := v
  dsimp only at q1 q2
  obtain ⟨R, hR⟩ : ∃ R, carrB p = R := ⟨_, rfl⟩
  rw [hR]
  have HV := Lib.hid hR
  have HQ := Lib.hid (And.intro q1 q2)
  clear hr hok q1 q2 hR
  go_enter Try.func16, Try.ntmps16
  go_upto_region 1 with fail
  have M0 := Lib.hid ((Mem.start w).alloc 27 #[.int .i64 vk, .string vname, .slice fA fn fc, .slice sA sn sc, .slice tA tn tc])
  generalize World.alloc _ _ = w1 at M0 ⊢
  generalize w.heap.size = gb at M0 ⊢
  have x2 : w1.cell? ⟨gb, 2, none⟩ = some (.slice fA fn fc) := M0.out.cellK 0 rfl 2
  have x3 : w1.cell? ⟨gb, 3, none⟩ = some (.slice sA sn sc) := M0.out.cellK 0 rfl 3
  by_cases h1 : 20000 < fn
  · have e1 : decide (20000 < (fn : Int)) = true := decide_eq_true (by omega)
    have e2 : R = false := by rw [← HV.out]; simp [carrB, HQ.out.1]; intro h; omega
    have B0 := Lib.hid M0.out.bel
    clear M0
    go_wp2
    go_ret
    exact ⟨by first | rfl | (rw [e2]; rfl), B0.out⟩
  · have e1 : decide (20000 < (fn : Int)) = false := decide_eq_false (by omega)
    by_cases h2 : 20000 < sn
    · have e2 : decide (20000 < (sn : Int)) = true := decide_eq_true (by omega)
      have e3 : R = false := by rw [← HV.out]; simp [carrB, HQ.out.2]; intro _ h; omega
      have B0 := Lib.hid M0.out.bel
      clear M0
      go_wp2
      go_ret
      exact ⟨by first | rfl | (rw [e3]; rfl), B0.out⟩
    · have e2 : decide (20000 < (sn : Int)) = false := decide_eq_false (by omega)
      have HC := Lib.hid (ContainsFunc_slots (fun s => !slotB fn s) gb sA sn sc p.slots w1 (HR.out.slots.below M0.out.bel) (by omega) (fun s hs w' hb => mayC_any gb fA fn fc s _ w' ((M0.out.blkK 0 rfl).below hb) rfl ⟨(HOK.out.2.2.2.1 s hs).2.2.1, (HOK.out.2.2.2.1 s hs).2.2.2.1⟩ (by omega)))
      have HX : Hid (R = !(p.slots.any fun s => !slotB fn s)) := Lib.hid (by
        have h3 : p.first.length = fn := HQ.out.1
        have h4 : p.slots.length = sn := HQ.out.2
        have h5 : fn ≤ 20000 := by omega
        have h6 : sn ≤ 20000 := by omega
        rw [← HV.out, any_not, Bool.not_not]
        simp [carrB, h3, h4, h5, h6])
      obtain ⟨Y, hY⟩ : ∃ Y, (p.slots.any fun s => !slotB fn s) = Y := ⟨_, rfl⟩
      rw [hY] at HC HX
      have B0 := Lib.hid M0.out.bel
      clear hY M0
      go_wp2_with fail
      refine HC.out.mono ?_
      rintro e w2 ⟨rfl, hb⟩
      have HB := Lib.hid (B0.out.trans (hb.mono B0.out.size))
      clear hb B0 HC x2 x3
      go_wp2
      go_ret
      exact ⟨ret_bool HX.out.symm, HB.out⟩
end Go.Proofs.Ytnalabohhocjaaa.Chg
