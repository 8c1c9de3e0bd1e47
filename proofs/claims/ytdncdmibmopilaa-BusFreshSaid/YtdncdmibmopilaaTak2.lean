/-
  Bytes come to a link that is open: bus's take. Conditions: the bytes read, within the reach; the link's box is known.
-/
import Derived.Test.YtdncdmibmopilaaTak1
import Derived.BigRegion
namespace Go.Proofs.Ytdncdmibmopilaa.Bus
open Go.RowKit Go.Proofs.Ytdncdmibmopilaa.W Go.Proofs.Ytdncdmibmopilaa.Ints Go.Proofs.Ytdncdmibmopilaa.Byt Go.Proofs.Ytdncdmibmopilaa.Num

theorem late_wrap (x : Int) : IntKind.i8.wrap x = (x + 128) % 256 - 128 := by
  simp [IntKind.wrap, IntKind.signed, IntKind.bits]
  split <;> omega
theorem late_eq {seq tq : Int} (_h0 : 0 ≤ seq) (_h1 : seq ≤ 255) (_h2 : 0 ≤ tq) (_h3 : tq ≤ 255) : decide (IntKind.i8.wrap (tq - seq) ≤ 0) = lateB seq tq := by
  rw [late_wrap, lateB, Bool.eq_iff_iff]
  simp only [decide_eq_true_eq, Bool.or_eq_true]
  omega
def takeE (st seq : Int) (fresh : Bool) (n : Nat) (o : (Int × Int × List Int) × Int) : Int :=
  if (o.2 != 0) = true then o.2 else if (o.1.1 != st) = true then 6 else if ((o.1.2.2.length : Int) != (n : Int)) = true then 4 else if (fresh && lateB seq o.1.2.1) = true then 18 else 0
def Took (w w' : World) (x : Ending) (g n : Nat) (E : Int) (tq : Int) (tz : List Int) : Prop :=
  (E ≠ 0 ∧ x = .returned (.int .i64 E) ∧ Below w.heap.size w w') ∨
  (E = 0 ∧ x = .returned (.int .i64 0) ∧ tz.length = n ∧ ∃ wa C c', Below w.heap.size w wa ∧ wa.ownsRow w.heap.size 3 1 (.slice C n c') n (ints tz) ∧ w' = (((wa.setCell ⟨g, 3, none⟩ (.slice C n c')).setCell ⟨g, 4, none⟩ (.int .i64 tq)).setCell ⟨g, 5, none⟩ (.int .i64 0)).setCell ⟨g, 6, none⟩ (.bool true))

set_option maxRecDepth 100000 in
set_option maxHeartbeats 3200000 in
theorem take_any (g : Nat) (st wt : Int) (A : Option Addr) (n c : Nat) (B : Option Addr) (d : Nat) (seq age : Int) (fresh : Bool) (Z : Option Addr) (k e : Nat) (bs : List UInt8) (w : World)
    (hg : Blk w g 72 (linkC st wt (.slice A n c) (.slice B n d) seq age fresh)) (hz : Rd w 1 Z k (byts bs)) (hke : k ≤ e) (hk : k ≤ 140737488351232) (he : e ≤ maxLen) (h0 : 0 ≤ seq) (h1 : seq ≤ 255) :
    Calls Try.prog 44 #[.pointer (some ⟨g, 0, none⟩), .slice Z k e] w fun x w' => Took w w' x g n (takeE st seq fresh n (openF bs)) (openF bs).1.2.1 (openF bs).1.2.2 := by
  obtain ⟨h60, hq0, hq1⟩ := openF_bounds (bs := bs)
  generalize hO : openF bs = O at *
  obtain ⟨⟨ts, tq, tz⟩, er⟩ := O
  simp only at h60 hq0 hq1
  have HO := Lib.hid hO
  have HZ := Lib.hid hz
  have HG := Lib.hid hg
  have hgl := hg.lt
  generalize hT : takeE st seq fresh n ((ts, tq, tz), er) = T
  have HT := Lib.hid hT
  clear hO hz hg hT
  go_enter Try.func44, Try.ntmps44
  go_wp2_with fail
  refine (Open_any Z k _ bs _ HZ.out hke hk he).mono ?_
  intro e w1 hf
  rw [HO.out] at hf
  obtain ⟨C, d2, rfl, o4, hb4⟩ := hf
  simp only at o4
  have z5 := hb4.size
  have kg := HG.out.below hb4
  have HS := Lib.hid o4
  have HB := Lib.hid hb4
  have c1 := kg.cell
  have f1 := kg.frozen
  have HL := Lib.hid (late_eq h0 h1 hq0 hq1)
  clear o4 hb4 HG kg
  cases h1 : (er != 0)
  rotate_left
  · have H1 := Lib.hid h1
    go_wp2
    go_ret
    refine .inl ⟨?_, ?_, ?_⟩
    · rw [show T = er from by rw [← HT.out]; simp [takeE, h1]]; simpa using H1.out
    · rw [show T = er from by rw [← HT.out]; simp [takeE, h1]]; exact ret_int rfl
    · first | exact HB.out | exact below_drewN HB.out _
  · have he0 : er = 0 := by simpa using h1
    subst he0
    clear h1
    cases h2 : (ts != st)
    rotate_left
    · have H2 := Lib.hid h2
      go_wp2
      go_ret
      refine .inl ⟨?_, ?_, ?_⟩
      · rw [show T = 6 from by rw [← HT.out]; simp [takeE, H2.out]]; decide
      · rw [show T = 6 from by rw [← HT.out]; simp [takeE, H2.out]]; exact ret_int rfl
      · first | exact HB.out | exact below_drewN HB.out _
    · have H2 := Lib.hid h2
      cases h3 : ((tz.length : Int) != (n : Int))
      rotate_left
      · have H3 := Lib.hid h3
        go_wp2
        go_ret
        refine .inl ⟨?_, ?_, ?_⟩
        · rw [show T = 4 from by rw [← HT.out]; simp [takeE, H2.out, H3.out]]; decide
        · rw [show T = 4 from by rw [← HT.out]; simp [takeE, H2.out, H3.out]]; exact ret_int rfl
        · first | exact HB.out | exact below_drewN HB.out _
      · have H3 := Lib.hid h3
        have hml : tz.length = n := by simp at h3; omega
        have HTL := Lib.hid hml
        rw [hml] at HS
        rw [hml]
        clear h3
        have h3 : ((n : Int) != (n : Int)) = false := by simp
        clear hml h60
        cases fresh
        ·
          go_wp2
          go_ret
          refine .inr ⟨?_, ret_int rfl, HTL.out, w1, C, d2, HB.out, HS.out, rfl⟩
          rw [← HT.out]; simp [takeE, H2.out, H3.out]
        · cases h4 : lateB seq tq
          · have H4 := Lib.hid h4
            have h5 := HL.out.trans h4
            clear h4
            go_wp2
            go_ret
            refine .inr ⟨?_, ret_int rfl, HTL.out, w1, C, d2, HB.out, HS.out, rfl⟩
            rw [← HT.out]; simp [takeE, H2.out, H3.out, H4.out]
          · have H4 := Lib.hid h4
            have h5 := HL.out.trans h4
            clear h4
            go_wp2
            go_ret
            refine .inl ⟨?_, ?_, ?_⟩
            · rw [show T = 18 from by rw [← HT.out]; simp [takeE, H2.out, H3.out, H4.out]]; decide
            · rw [show T = 18 from by rw [← HT.out]; simp [takeE, H2.out, H3.out, H4.out]]; exact ret_int rfl
            · first | exact HB.out | exact below_drewN HB.out _
end Go.Proofs.Ytdncdmibmopilaa.Bus
