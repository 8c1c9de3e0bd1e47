/-
  The contract of the statements' own sideAs at the call Wait: it answers true where the call, made twice, answers what is wanted, with an image of its own. Conditions: the images read and are within the reach; the call's contract.
-/
import Derived.Test.YtlccpnloankloaaPair3
import Derived.Test.YtlccpnloankloaaPair6
import Derived.Test.YtlccpnloankloaaSt
namespace Go.Proofs.Ytlccpnloankloaa.Pair
open Go.RowKit Go.Proofs.Ytlccpnloankloaa.W Go.Proofs.Ytlccpnloankloaa.Ints

/-- what is asked of the call -/
def CallWait (w : World) (me : Int) (act : Bool) (term cyc : Int) (xs : List Int) (n : Nat) (sil pat : Int) (ys : List Int) (m : Nat) (F : SD (List Int) × Int) : Prop :=
  ∀ (W : World) (A B : Option Addr) (c d : Nat), Below w.heap.size w W → Rd W 1 A n (ints xs) → Rd W 1 B m (ints ys) →
    Calls Try.prog 23 #[sideV me act term cyc (.slice A n c) sil pat, .slice B m d] W fun e W' => FreshS W W' e F

theorem fresh_partsWait {w w' : World} {e : Ending} {F : SD (List Int) × Int} (h : FreshS w w' e F) :
    ∃ A d, e = .returned (.tuple #[sideV F.1.me F.1.act F.1.term F.1.cyc (.slice A F.1.img.length d) F.1.sil F.1.pat, .int .i64 F.2]) ∧ w'.ownsRow w.heap.size 3 1 (.slice A F.1.img.length d) F.1.img.length (ints F.1.img) ∧ Below w.heap.size w w' := h
theorem drop2Wait {w : World} {Ks : List Box} {a b c : Own} {l : List Own} (h : St w Ks (a :: b :: c :: l)) : St w Ks (a :: b :: l) :=
  h.keep (fun _ hk => hk) (fun o ho => by simp only [List.mem_cons] at ho ⊢; rcases ho with h | h | h <;> simp [h])
theorem drop3Wait {w : World} {Ks : List Box} {a b c d : Own} {l : List Own} (h : St w Ks (a :: b :: c :: d :: l)) : St w Ks (a :: b :: c :: l) :=
  h.keep (fun _ hk => hk) (fun o ho => by simp only [List.mem_cons] at ho ⊢; rcases ho with h | h | h | h <;> simp [h])
theorem st3Wait (w : World) (c1 c2 c3 : Array Value) (t : TypeId) : St (((w.alloc (.cells c1 t)).alloc (.cells c2 t)).alloc (.cells c3 t)) [⟨w.heap.size + 2, t, c3⟩, ⟨w.heap.size + 1, t, c2⟩, ⟨w.heap.size, t, c1⟩] [] := by
  have h := (((St.nil w).alloc t c1).alloc t c2).alloc t c3
  simpa only [World.size_alloc] using h

set_option maxHeartbeats 6400000 in
theorem sideAs_Wait (me : Int) (act : Bool) (term cyc : Int) (A : Option Addr) (n c : Nat) (sil pat : Int) (xs : List Int) (B : Option Addr) (m d : Nat) (ys : List Int) (F : SD (List Int) × Int) (D : Option Addr) (dw : Nat) (w : World)
    (hx : Rd w 1 A n (ints xs)) (hn : n * 8 ≤ 140737488351232) (hy : Rd w 1 B m (ints ys)) (hm : m * 8 ≤ 140737488351232) (hz : Rd w 1 D F.1.img.length (ints F.1.img)) (hl : F.1.img.length * 8 ≤ 140737488351232)
    (hcall : CallWait w me act term cyc xs n sil pat ys m F) :
    Calls Try.prog 14 #[.func (.func 23) #[] #[], sideV me act term cyc (.slice A n c) sil pat, .slice B m d, sideV F.1.me F.1.act F.1.term F.1.cyc (.slice D F.1.img.length dw) F.1.sil F.1.pat, .int .i64 F.2] w fun e w' => e = .returned (.bool true) ∧ Below w.heap.size w w' := by
  obtain ⟨i0, hi0, hz0, hz1, hz2⟩ := info_parts int_info
  have l1 : F.1.img.length ≤ maxLen := by unfold maxLen; omega
  have l2 : n ≤ maxLen := by unfold maxLen; omega
  have l3 : m ≤ maxLen := by unfold maxLen; omega
  have HX := Lib.hid hx
  have HY := Lib.hid hy
  have HZ := Lib.hid hz
  have HC := Lib.hid hcall
  clear hx hy hz hcall
  go_enter Try.func14, Try.ntmps14
  go_wp2_with (at_builtin; refine wpList_append_rd _ rfl (.const nilS) (.tmp 20) 23 rfl (w.heap.size + 3) 3 i0 _ 1 8 Try.underlying23 hi0 hz0 hz1 hz2 rfl (by omega) _ 0 [] rfl (World.ownsRow_nil _ _ _ _) A n c (ints xs) rfl (HX.out.below (below3 _ _ _ _)) (ones _ _) ?_ ?_ ?_ ?_)
  · unfold maxLen; omega
  · omega
  · simp
  intro v1 w1 ho1 hg1 hat1
  clear hat1
  obtain ⟨A1, d1, rfl, _⟩ := own_shape ho1
  try simp only [Nat.zero_add, List.nil_append] at ho1
  have hb := grow_none (show World.grownBy _ w1 none from hg1)
  have z1 : w.heap.size + 2 < w1.heap.size := by have := hb.size; simp at this; omega
  have S1 := Lib.hid (((st3Wait w _ _ _ _).below hb).push (Own.mk' ho1 (Nat.le_refl _)))
  have B1 := Lib.hid ((below3 w _ _ _).trans (hb.mono (by simp <;> omega)))
  clear ho1 hg1 hb
  have ch := S1.out.cell (List.Mem.head _)
  have fh := S1.out.frozen (List.Mem.head _)
  have cw := S1.out.cell (List.Mem.tail _ (List.Mem.head _))
  have fw := S1.out.frozen (List.Mem.tail _ (List.Mem.head _))
  have cs := S1.out.cell (List.Mem.tail _ (List.Mem.tail _ (List.Mem.head _)))
  have fs := S1.out.frozen (List.Mem.tail _ (List.Mem.tail _ (List.Mem.head _)))
  go_wp2_with (at_builtin; refine wpList_append_rd _ rfl (.const nilS) (.tmp 23) 23 rfl w1.heap.size 3 i0 _ 1 8 Try.underlying23 hi0 hz0 hz1 hz2 rfl (by omega) _ 0 [] rfl (World.ownsRow_nil _ _ _ _) B m d (ints ys) rfl (HY.out.below (B1.out.setCell (by simp <;> omega) _)) (ones _ _) ?_ ?_ ?_ ?_)
  · unfold maxLen; omega
  · omega
  · simp
  intro v2 w2 ho2 hg2 hat2
  clear hat2
  obtain ⟨A2, d2, rfl, _⟩ := own_shape ho2
  try simp only [Nat.zero_add, List.nil_append] at ho2
  have hb := grow_none (show World.grownBy _ w2 none from hg2)
  have z2 : w1.heap.size ≤ w2.heap.size := by have := hb.size; simpa using this
  have S2 := Lib.hid (((S1.out.set (i := 4) (u := .slice A1 n d1) (by simp) (by simp only [List.mem_singleton, forall_eq]; intro a ha; have := S1.out.range (List.Mem.head _) a ha; simp only at this; omega) rfl).below hb).push (Own.mk' ho2 (Nat.le_refl _)))
  have B2 := Lib.hid ((B1.out.setCell (p := ⟨w.heap.size + 2, 4, none⟩) (by simp <;> omega) (.slice A1 n d1)).trans (hb.mono (by simp <;> omega)))
  clear ho2 hg2 hb
  clear ch fh cw fw cs fs
  clear S1 B1
  have ch := S2.out.cell (List.Mem.head _)
  have fh := S2.out.frozen (List.Mem.head _)
  have cw := S2.out.cell (List.Mem.tail _ (List.Mem.head _))
  have fw := S2.out.frozen (List.Mem.tail _ (List.Mem.head _))
  have cs := S2.out.cell (List.Mem.tail _ (List.Mem.tail _ (List.Mem.head _)))
  have fs := S2.out.frozen (List.Mem.tail _ (List.Mem.tail _ (List.Mem.head _)))
  go_wp2_with fail
  refine (HC.out w2 A1 A2 d1 d2 B2.out (S2.out.rd (List.Mem.tail _ (List.Mem.head _))) (S2.out.rd (List.Mem.head _))).mono ?_
  intro e w3 hf
  obtain ⟨A3, d3, rfl, ho3, hb⟩ := fresh_partsWait hf
  have z3 := hb.size
  have z30 : w.heap.size + 2 < w3.heap.size := by omega
  have z31 : w.heap.size + 1 < w3.heap.size := by omega
  have z32 : w.heap.size < w3.heap.size := by omega
  have S3 := Lib.hid ((S2.out.below hb).push (Own.mk' ho3 (Nat.le_refl _)))
  have B3 := Lib.hid (B2.out.trans (hb.mono (by omega)))
  clear hf ho3 hb
  clear ch fh cw fw cs fs
  clear S2 B2
  have ch := S3.out.cell (List.Mem.head _)
  have fh := S3.out.frozen (List.Mem.head _)
  have cw := S3.out.cell (List.Mem.tail _ (List.Mem.head _))
  have fw := S3.out.frozen (List.Mem.tail _ (List.Mem.head _))
  have cs := S3.out.cell (List.Mem.tail _ (List.Mem.tail _ (List.Mem.head _)))
  have fs := S3.out.frozen (List.Mem.tail _ (List.Mem.tail _ (List.Mem.head _)))
  go_wp2_with fail
  refine (HC.out _ A1 A2 d1 d2 (B3.out.alloc (by omega) _) ((S3.out.rd (List.Mem.tail _ (List.Mem.tail _ (List.Mem.head _)))).alloc _) ((S3.out.rd (List.Mem.tail _ (List.Mem.head _))).alloc _)).mono ?_
  intro e w4 hf
  obtain ⟨A4, d4, rfl, ho4, hb⟩ := fresh_partsWait hf
  simp only [World.size_alloc] at ho4
  have z4 := hb.size
  simp only [World.size_alloc] at z4
  have z40 : w.heap.size + 2 < w4.heap.size := by omega
  have z41 : w.heap.size + 1 < w4.heap.size := by omega
  have z42 : w.heap.size < w4.heap.size := by omega
  have z43 : w3.heap.size < w4.heap.size := by omega
  have S4 := Lib.hid (((S3.out.alloc _ _).below hb).push (Own.mk' ho4 (Nat.le_refl _)))
  have B4 := Lib.hid ((B3.out.alloc (by omega) _).trans (hb.mono (by simp <;> omega)))
  clear hf ho4 hb z30 z31 z32
  clear ch fh cw fw cs fs
  clear S3 B3
  have ca := S4.out.cell (List.Mem.head _)
  have fa := S4.out.frozen (List.Mem.head _)
  have ch := S4.out.cell (List.Mem.tail _ (List.Mem.head _))
  have fh := S4.out.frozen (List.Mem.tail _ (List.Mem.head _))
  have cw := S4.out.cell (List.Mem.tail _ (List.Mem.tail _ (List.Mem.head _)))
  have fw := S4.out.frozen (List.Mem.tail _ (List.Mem.tail _ (List.Mem.head _)))
  have cs := S4.out.cell (List.Mem.tail _ (List.Mem.tail _ (List.Mem.tail _ (List.Mem.head _))))
  have fs := S4.out.frozen (List.Mem.tail _ (List.Mem.tail _ (List.Mem.tail _ (List.Mem.head _))))
  go_wp2_with fail
  refine (sameSide_eq _ _ _ _ A3 D _ _ _ _ _ F.1.img _ ((S4.out.rd (List.Mem.tail _ (List.Mem.head _))).alloc _) ((HZ.out.below B4.out).alloc _) l1).mono ?_
  rintro e w5 ⟨rfl, hb⟩
  have z5 := hb.size
  simp only [World.size_alloc] at z5
  have S5 := Lib.hid ((S4.out.alloc _ _).below hb)
  have B5 := Lib.hid ((B4.out.alloc (by omega) _).trans (hb.mono (by simp <;> omega)))
  clear hb z40 z41 z42 z43
  clear ca fa ch fh cw fw cs fs
  clear S4 B4
  have cb := S5.out.cell (List.Mem.head _)
  have fb := S5.out.frozen (List.Mem.head _)
  have ca := S5.out.cell (List.Mem.tail _ (List.Mem.head _))
  have fa := S5.out.frozen (List.Mem.tail _ (List.Mem.head _))
  have ch := S5.out.cell (List.Mem.tail _ (List.Mem.tail _ (List.Mem.head _)))
  have fh := S5.out.frozen (List.Mem.tail _ (List.Mem.tail _ (List.Mem.head _)))
  have cw := S5.out.cell (List.Mem.tail _ (List.Mem.tail _ (List.Mem.tail _ (List.Mem.head _))))
  have fw := S5.out.frozen (List.Mem.tail _ (List.Mem.tail _ (List.Mem.tail _ (List.Mem.head _))))
  have cs := S5.out.cell (List.Mem.tail _ (List.Mem.tail _ (List.Mem.tail _ (List.Mem.tail _ (List.Mem.head _)))))
  have fs := S5.out.frozen (List.Mem.tail _ (List.Mem.tail _ (List.Mem.tail _ (List.Mem.tail _ (List.Mem.head _)))))
  go_wp2_with fail
  refine (sameSide_eq _ _ _ _ A4 D _ _ _ _ _ F.1.img _ (S5.out.rd (List.Mem.head _)) (HZ.out.below B5.out) l1).mono ?_
  rintro e w6 ⟨rfl, hb⟩
  have z6 := hb.size
  have S6 := Lib.hid (S5.out.below hb)
  have B6 := Lib.hid (B5.out.trans (hb.mono (by omega)))
  clear hb
  clear cb fb ca fa ch fh cw fw cs fs
  clear S5 B5
  have cb := S6.out.cell (List.Mem.head _)
  have fb := S6.out.frozen (List.Mem.head _)
  have ca := S6.out.cell (List.Mem.tail _ (List.Mem.head _))
  have fa := S6.out.frozen (List.Mem.tail _ (List.Mem.head _))
  have ch := S6.out.cell (List.Mem.tail _ (List.Mem.tail _ (List.Mem.head _)))
  have fh := S6.out.frozen (List.Mem.tail _ (List.Mem.tail _ (List.Mem.head _)))
  have cw := S6.out.cell (List.Mem.tail _ (List.Mem.tail _ (List.Mem.tail _ (List.Mem.head _))))
  have fw := S6.out.frozen (List.Mem.tail _ (List.Mem.tail _ (List.Mem.tail _ (List.Mem.head _))))
  have cs := S6.out.cell (List.Mem.tail _ (List.Mem.tail _ (List.Mem.tail _ (List.Mem.tail _ (List.Mem.head _)))))
  have fs := S6.out.frozen (List.Mem.tail _ (List.Mem.tail _ (List.Mem.tail _ (List.Mem.tail _ (List.Mem.head _)))))
  go_wp2_with fail
  refine (sameSide_eq _ _ _ _ A1 A _ _ _ _ _ xs _ (S6.out.rd (List.Mem.tail _ (List.Mem.tail _ (List.Mem.tail _ (List.Mem.head _))))) (HX.out.below B6.out) l2).mono ?_
  rintro e w7 ⟨rfl, hb⟩
  have z7 := hb.size
  have S7 := Lib.hid (S6.out.below hb)
  have B7 := Lib.hid (B6.out.trans (hb.mono (by omega)))
  clear hb
  clear cb fb ca fa ch fh cw fw cs fs
  clear S6 B6
  have cb := S7.out.cell (List.Mem.head _)
  have fb := S7.out.frozen (List.Mem.head _)
  have ca := S7.out.cell (List.Mem.tail _ (List.Mem.head _))
  have fa := S7.out.frozen (List.Mem.tail _ (List.Mem.head _))
  have ch := S7.out.cell (List.Mem.tail _ (List.Mem.tail _ (List.Mem.head _)))
  have fh := S7.out.frozen (List.Mem.tail _ (List.Mem.tail _ (List.Mem.head _)))
  have cw := S7.out.cell (List.Mem.tail _ (List.Mem.tail _ (List.Mem.tail _ (List.Mem.head _))))
  have fw := S7.out.frozen (List.Mem.tail _ (List.Mem.tail _ (List.Mem.tail _ (List.Mem.head _))))
  have cs := S7.out.cell (List.Mem.tail _ (List.Mem.tail _ (List.Mem.tail _ (List.Mem.tail _ (List.Mem.head _)))))
  have fs := S7.out.frozen (List.Mem.tail _ (List.Mem.tail _ (List.Mem.tail _ (List.Mem.tail _ (List.Mem.head _)))))
  go_wp2_with fail
  refine (sameInts_any A2 B m m d2 d ys ys _ (S7.out.rd (List.Mem.tail _ (List.Mem.tail _ (List.Mem.head _)))) (HY.out.below B7.out) l3).mono ?_
  rintro e w8 ⟨rfl, q, rfl⟩
  rw [show decide (ys = ys) = true from by simp]
  go_wp2_with (at_builtin; refine wpList_append_rd _ rfl (.const nilS) (.tmp 72) 23 rfl w7.heap.size 3 i0 _ 1 8 Try.underlying23 hi0 hz0 hz1 hz2 rfl (by omega) _ 0 [] rfl (World.ownsRow_nil _ _ _ _) D F.1.img.length dw (ints F.1.img) rfl ((HZ.out.below B7.out).drewN q) (ones _ _) ?_ ?_ ?_ ?_)
  · unfold maxLen; omega
  · omega
  · simp
  intro v9 w9 ho9 hg9 hat9
  clear hat9
  obtain ⟨A5, d5, rfl, _⟩ := own_shape ho9
  try simp only [Nat.zero_add, List.nil_append] at ho9
  have hb := grow_none (show World.grownBy _ w9 none from hg9)
  have z9 : w7.heap.size ≤ w9.heap.size := hb.size
  have S9 := Lib.hid (((S7.out.drewN q).below hb).push (Own.mk' ho9 (Nat.le_refl _)))
  have B9 := Lib.hid ((below_drewN B7.out q).trans (hb.mono (show w.heap.size ≤ w7.heap.size by omega)))
  clear ho9 hg9 hb
  clear cb fb ca fa ch fh cw fw cs fs
  clear S7 B7
  have cb := S9.out.cell (List.Mem.head _)
  have fb := S9.out.frozen (List.Mem.head _)
  have ca := S9.out.cell (List.Mem.tail _ (List.Mem.head _))
  have fa := S9.out.frozen (List.Mem.tail _ (List.Mem.head _))
  have ch := S9.out.cell (List.Mem.tail _ (List.Mem.tail _ (List.Mem.head _)))
  have fh := S9.out.frozen (List.Mem.tail _ (List.Mem.tail _ (List.Mem.head _)))
  have cw := S9.out.cell (List.Mem.tail _ (List.Mem.tail _ (List.Mem.tail _ (List.Mem.head _))))
  have fw := S9.out.frozen (List.Mem.tail _ (List.Mem.tail _ (List.Mem.tail _ (List.Mem.head _))))
  have cs := S9.out.cell (List.Mem.tail _ (List.Mem.tail _ (List.Mem.tail _ (List.Mem.tail _ (List.Mem.head _)))))
  have fs := S9.out.frozen (List.Mem.tail _ (List.Mem.tail _ (List.Mem.tail _ (List.Mem.tail _ (List.Mem.head _)))))
  go_wp2_with fail
  have hr := S9.out.range (List.Mem.tail _ (List.Mem.tail _ (List.Mem.head _)))
  refine (over_any _ A3 F.1.img.length d3 _ _ _ (S9.out.own _ (List.Mem.tail _ (List.Mem.tail _ (List.Mem.head _)))).1 (by simp only; omega) (by omega)).mono ?_
  rintro e w10 ⟨rfl, hg⟩
  have z10 := hg.size
  have S10 := Lib.hid ((drop2Wait S9.out).over hg hr (by simp <;> omega) (by simp <;> omega))
  have B10 := Lib.hid (B9.out.trans (over_below hg hr (by simp only; omega) (by omega)))
  clear hg hr
  clear cb fb ca fa ch fh cw fw cs fs
  clear S9 B9
  have cb := S10.out.cell (List.Mem.head _)
  have fb := S10.out.frozen (List.Mem.head _)
  have ca := S10.out.cell (List.Mem.tail _ (List.Mem.head _))
  have fa := S10.out.frozen (List.Mem.tail _ (List.Mem.head _))
  have ch := S10.out.cell (List.Mem.tail _ (List.Mem.tail _ (List.Mem.head _)))
  have fh := S10.out.frozen (List.Mem.tail _ (List.Mem.tail _ (List.Mem.head _)))
  have cw := S10.out.cell (List.Mem.tail _ (List.Mem.tail _ (List.Mem.tail _ (List.Mem.head _))))
  have fw := S10.out.frozen (List.Mem.tail _ (List.Mem.tail _ (List.Mem.tail _ (List.Mem.head _))))
  have cs := S10.out.cell (List.Mem.tail _ (List.Mem.tail _ (List.Mem.tail _ (List.Mem.tail _ (List.Mem.head _)))))
  have fs := S10.out.frozen (List.Mem.tail _ (List.Mem.tail _ (List.Mem.tail _ (List.Mem.tail _ (List.Mem.head _)))))
  go_wp2_with fail
  have hr := S10.out.range (List.Mem.tail _ (List.Mem.tail _ (List.Mem.tail _ (List.Mem.head _))))
  refine (over_any _ A1 n d1 _ _ _ (S10.out.own _ (List.Mem.tail _ (List.Mem.tail _ (List.Mem.tail _ (List.Mem.head _))))).1 (by simp only; omega) (by omega)).mono ?_
  rintro e w11 ⟨rfl, hg⟩
  have z11 := hg.size
  have S11 := Lib.hid ((drop3Wait S10.out).over hg hr (by simp <;> omega) (by simp <;> omega))
  have B11 := Lib.hid (B10.out.trans (over_below hg hr (by simp only; omega) (by omega)))
  clear hg hr
  clear cb fb ca fa ch fh cw fw cs fs
  clear S10 B10
  have cb := S11.out.cell (List.Mem.head _)
  have fb := S11.out.frozen (List.Mem.head _)
  have ca := S11.out.cell (List.Mem.tail _ (List.Mem.head _))
  have fa := S11.out.frozen (List.Mem.tail _ (List.Mem.head _))
  have ch := S11.out.cell (List.Mem.tail _ (List.Mem.tail _ (List.Mem.head _)))
  have fh := S11.out.frozen (List.Mem.tail _ (List.Mem.tail _ (List.Mem.head _)))
  have cw := S11.out.cell (List.Mem.tail _ (List.Mem.tail _ (List.Mem.tail _ (List.Mem.head _))))
  have fw := S11.out.frozen (List.Mem.tail _ (List.Mem.tail _ (List.Mem.tail _ (List.Mem.head _))))
  have cs := S11.out.cell (List.Mem.tail _ (List.Mem.tail _ (List.Mem.tail _ (List.Mem.tail _ (List.Mem.head _)))))
  have fs := S11.out.frozen (List.Mem.tail _ (List.Mem.tail _ (List.Mem.tail _ (List.Mem.tail _ (List.Mem.head _)))))
  go_wp2_with fail
  have hr := S11.out.range (List.Mem.tail _ (List.Mem.tail _ (List.Mem.head _)))
  refine (over_any _ A2 m d2 _ _ _ (S11.out.own _ (List.Mem.tail _ (List.Mem.tail _ (List.Mem.head _)))).1 (by simp only; omega) (by omega)).mono ?_
  rintro e w12 ⟨rfl, hg⟩
  have z12 := hg.size
  have S12 := Lib.hid ((drop2Wait S11.out).over hg hr (by simp <;> omega) (by simp <;> omega))
  have B12 := Lib.hid (B11.out.trans (over_below hg hr (by simp only; omega) (by omega)))
  clear hg hr
  clear cb fb ca fa ch fh cw fw cs fs
  clear S11 B11
  have cb := S12.out.cell (List.Mem.head _)
  have fb := S12.out.frozen (List.Mem.head _)
  have ca := S12.out.cell (List.Mem.tail _ (List.Mem.head _))
  have fa := S12.out.frozen (List.Mem.tail _ (List.Mem.head _))
  have ch := S12.out.cell (List.Mem.tail _ (List.Mem.tail _ (List.Mem.head _)))
  have fh := S12.out.frozen (List.Mem.tail _ (List.Mem.tail _ (List.Mem.head _)))
  have cw := S12.out.cell (List.Mem.tail _ (List.Mem.tail _ (List.Mem.tail _ (List.Mem.head _))))
  have fw := S12.out.frozen (List.Mem.tail _ (List.Mem.tail _ (List.Mem.tail _ (List.Mem.head _))))
  have cs := S12.out.cell (List.Mem.tail _ (List.Mem.tail _ (List.Mem.tail _ (List.Mem.tail _ (List.Mem.head _)))))
  have fs := S12.out.frozen (List.Mem.tail _ (List.Mem.tail _ (List.Mem.tail _ (List.Mem.tail _ (List.Mem.head _)))))
  go_wp2_with fail
  refine (sameInts_any A4 A5 _ _ d4 d5 F.1.img F.1.img _ (S12.out.rd (List.Mem.tail _ (List.Mem.head _))) (S12.out.rd (List.Mem.head _)) l1).mono ?_
  rintro e w13 ⟨rfl, q2, rfl⟩
  rw [show decide (F.1.img = F.1.img) = true from by simp]
  have B13 := Lib.hid (below_drewN B12.out q2)
  clear cb fb ca fa ch fh cw fw cs fs
  clear B12
  go_wp2
  go_ret
  exact ⟨rfl, B13.out⟩
end Go.Proofs.Ytlccpnloankloaa.Pair
