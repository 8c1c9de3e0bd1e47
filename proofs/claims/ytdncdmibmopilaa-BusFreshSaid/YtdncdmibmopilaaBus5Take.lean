/-
  The contract of the statements' own linkAs at the call Take: it answers true where the call, made twice, answers what is wanted, with rows of its own. Conditions: the words read and are within the reach; the call's contract.
-/
import Derived.Test.YtdncdmibmopilaaBus4
namespace Go.Proofs.Ytdncdmibmopilaa.Bus
open Go.RowKit Go.Proofs.Ytdncdmibmopilaa.W Go.Proofs.Ytdncdmibmopilaa.Ints

/-- what is asked of the call -/
def CallTake (q0 : Nat) (w : World) (st wt seq age : Int) (fresh : Bool) (xs ys : List Int) (n m : Nat) (F : LD × Int) : Prop :=
  ∀ (W : World) (A B : Option Addr) (c d : Nat), Below w.heap.size w W → Rd W 1 A n (ints xs) → Rd W 1 B m (ints ys) → Calls Try.prog 25 #[linkV st wt (.slice A n c) (.slice B m d) seq age fresh, .pointer (some ⟨q0, 0, none⟩)] W fun e W' => FreshL W W' e F
theorem st2Take (w : World) (c1 c2 : Array Value) (t : TypeId) : St ((w.alloc (.cells c1 t)).alloc (.cells c2 t)) [⟨w.heap.size + 1, t, c2⟩, ⟨w.heap.size, t, c1⟩] [] := by
  have h := ((St.nil w).alloc t c1).alloc t c2
  simpa only [World.size_alloc] using h
theorem dropkTake {w : World} {Ks : List Box} {Os Os' : List Own} (h : St w Ks Os) (hs : ∀ o ∈ Os', o ∈ Os) : St w Ks Os' := h.keep (fun _ hk => hk) hs

theorem dropTake_at3_6 {w : World} {Ks : List Box} {a0 a1 a2 a3 a4 a5 : Own} (h : St w Ks [a0, a1, a2, a3, a4, a5]) : St w Ks [a0, a1, a2, a4, a5] :=
  h.keep (fun _ hk => hk) (fun o ho => by simp only [List.mem_cons, List.not_mem_nil, or_false] at ho ⊢; rcases ho with h | h | h | h | h <;> simp [h])
theorem dropTake_at2_5 {w : World} {Ks : List Box} {a0 a1 a2 a3 a4 : Own} (h : St w Ks [a0, a1, a2, a3, a4]) : St w Ks [a0, a1, a3, a4] :=
  h.keep (fun _ hk => hk) (fun o ho => by simp only [List.mem_cons, List.not_mem_nil, or_false] at ho ⊢; rcases ho with h | h | h | h <;> simp [h])
theorem dropTake_at3_4 {w : World} {Ks : List Box} {a0 a1 a2 a3 : Own} (h : St w Ks [a0, a1, a2, a3]) : St w Ks [a0, a1, a2] :=
  h.keep (fun _ hk => hk) (fun o ho => by simp only [List.mem_cons, List.not_mem_nil, or_false] at ho ⊢; rcases ho with h | h | h <;> simp [h])
theorem dropTake_at2_3 {w : World} {Ks : List Box} {a0 a1 a2 : Own} (h : St w Ks [a0, a1, a2]) : St w Ks [a0, a1] :=
  h.keep (fun _ hk => hk) (fun o ho => by simp only [List.mem_cons, List.not_mem_nil, or_false] at ho ⊢; rcases ho with h | h <;> simp [h])

set_option maxHeartbeats 6400000 in
theorem linkAs_Take (q0 : Nat) (st wt : Int) (A : Option Addr) (n c : Nat) (B : Option Addr) (m d : Nat) (seq age : Int) (fresh : Bool) (xs ys : List Int) (F : LD × Int) (D E : Option Addr) (dw ew : Nat) (w : World)
    (hx : Rd w 1 A n (ints xs)) (hn : n * 8 ≤ 140737488351232) (hy : Rd w 1 B m (ints ys)) (hm : m * 8 ≤ 140737488351232) (hd : Rd w 1 D F.1.safe.length (ints F.1.safe)) (he : Rd w 1 E F.1.words.length (ints F.1.words))
    (hl : F.1.safe.length * 8 ≤ 140737488351232) (hk : F.1.words.length * 8 ≤ 140737488351232) (hcall : CallTake q0 w st wt seq age fresh xs ys n m F) :
    Calls Try.prog 13 #[.func (.func 25) #[] #[.pointer (some ⟨q0, 0, none⟩)], linkV st wt (.slice A n c) (.slice B m d) seq age fresh, linkV F.1.st F.1.wt (.slice D F.1.safe.length dw) (.slice E F.1.words.length ew) F.1.seq F.1.age F.1.fresh, .int .i64 F.2] w fun e w' => e = .returned (.bool true) ∧ Below w.heap.size w w' := by
  have l1 : F.1.safe.length ≤ maxLen := by unfold maxLen; omega
  have l4 : F.1.words.length ≤ maxLen := by unfold maxLen; omega
  have l2 : n ≤ maxLen := by unfold maxLen; omega
  have l3 : m ≤ maxLen := by unfold maxLen; omega
  have HX := Lib.hid hx
  have HY := Lib.hid hy
  have HD := Lib.hid hd
  have HE := Lib.hid he
  have HC := Lib.hid hcall
  clear hx hy hd he hcall
  go_enter Try.func13, Try.ntmps13
  go_wp2_with fail
  refine (linkOf_any st wt A n c B m d seq age fresh xs ys _ ((HX.out.alloc _).alloc _) hn ((HY.out.alloc _).alloc _) hm).mono ?_
  rintro e w1 ⟨A1, c1, B1, d1, mid1, rfl, m1, m2, o1, o2, hb⟩
  simp only [World.size_alloc] at m1 o1
  have z1 := hb.size
  simp only [World.size_alloc] at z1
  have z10 : w.heap.size < w1.heap.size := by omega
  have z11 : w.heap.size + 1 < w1.heap.size := by omega
  have S1 := Lib.hid ((((st2Take w _ _ _).below hb).push o1).push o2)
  have B1' := Lib.hid (((below_alloc _).alloc (by simp) _).trans (hb.mono (by simp <;> omega)))
  clear o1 o2 hb
  have cw := S1.out.cell (List.Mem.head _)
  have fw := S1.out.frozen (List.Mem.head _)
  have cl := S1.out.cell (List.Mem.tail _ (List.Mem.head _))
  have fl := S1.out.frozen (List.Mem.tail _ (List.Mem.head _))
  go_wp2_with fail
  refine (HC.out _ A1 B1 c1 d1 (B1'.out.alloc (by omega) _) ((S1.out.rd (List.Mem.tail _ (List.Mem.head _))).alloc _) ((S1.out.rd (List.Mem.head _)).alloc _)).mono ?_
  rintro e w2 ⟨A2, c2, B2, d2, rfl, l21, h21, l22, h22, n1, o1, o2, hb⟩
  simp only [World.size_alloc] at n1
  obtain ⟨n11, n12, n13, n14, n15, n16, n17⟩ := n1
  have z2 := hb.size
  simp only [World.size_alloc] at z2
  have z20 : w.heap.size < w2.heap.size := by omega
  have z21 : w.heap.size + 1 < w2.heap.size := by omega
  have z22 : w1.heap.size < w2.heap.size := by omega
  have S2 := Lib.hid ((((S1.out.alloc _ _).below hb).push o1).push o2)
  have B2' := Lib.hid ((B1'.out.alloc (by omega) _).trans (hb.mono (by simp <;> omega)))
  clear o1 o2 hb z10 z11
  clear cw fw cl fl
  clear S1 B1'
  have ch := S2.out.cell (List.Mem.head _)
  have fh := S2.out.frozen (List.Mem.head _)
  have cw := S2.out.cell (List.Mem.tail _ (List.Mem.head _))
  have fw := S2.out.frozen (List.Mem.tail _ (List.Mem.head _))
  have cl := S2.out.cell (List.Mem.tail _ (List.Mem.tail _ (List.Mem.head _)))
  have fl := S2.out.frozen (List.Mem.tail _ (List.Mem.tail _ (List.Mem.head _)))
  go_wp2_with fail
  refine (HC.out _ A1 B1 c1 d1 (B2'.out.alloc (by omega) _) ((S2.out.rd (List.Mem.tail _ (List.Mem.tail _ (List.Mem.tail _ (List.Mem.head _))))).alloc _) ((S2.out.rd (List.Mem.tail _ (List.Mem.tail _ (List.Mem.head _)))).alloc _)).mono ?_
  rintro e w3 ⟨A3, c3, B3, d3, rfl, l31, h31, l32, h32, p1, o1, o2, hb⟩
  simp only [World.size_alloc] at p1
  obtain ⟨p11, p12, p13, p14, p15, p16, p17⟩ := p1
  have z3 := hb.size
  simp only [World.size_alloc] at z3
  have z30 : w.heap.size < w3.heap.size := by omega
  have z31 : w.heap.size + 1 < w3.heap.size := by omega
  have z32 : w1.heap.size < w3.heap.size := by omega
  have z33 : w2.heap.size < w3.heap.size := by omega
  have S3 := Lib.hid ((((S2.out.alloc _ _).below hb).push o1).push o2)
  have B3' := Lib.hid ((B2'.out.alloc (by omega) _).trans (hb.mono (by simp <;> omega)))
  clear o1 o2 hb z20 z21 z22
  clear ch fh cw fw cl fl
  clear S2 B2'
  have ca := S3.out.cell (List.Mem.head _)
  have fa := S3.out.frozen (List.Mem.head _)
  have ch := S3.out.cell (List.Mem.tail _ (List.Mem.head _))
  have fh := S3.out.frozen (List.Mem.tail _ (List.Mem.head _))
  have cw := S3.out.cell (List.Mem.tail _ (List.Mem.tail _ (List.Mem.head _)))
  have fw := S3.out.frozen (List.Mem.tail _ (List.Mem.tail _ (List.Mem.head _)))
  have cl := S3.out.cell (List.Mem.tail _ (List.Mem.tail _ (List.Mem.tail _ (List.Mem.head _))))
  have fl := S3.out.frozen (List.Mem.tail _ (List.Mem.tail _ (List.Mem.tail _ (List.Mem.head _))))
  go_wp2_with fail
  refine (sameLink_eq _ _ A2 B2 D E _ _ _ _ _ _ _ _ _ F.1.safe F.1.words _ ((S3.out.rd (List.Mem.tail _ (List.Mem.tail _ (List.Mem.tail _ (List.Mem.head _))))).alloc _) ((S3.out.rd (List.Mem.tail _ (List.Mem.tail _ (List.Mem.head _)))).alloc _) ((HD.out.below B3'.out).alloc _) ((HE.out.below B3'.out).alloc _) l1 l4).mono ?_
  rintro e w4 ⟨rfl, hb⟩
  have z4 := hb.size
  simp only [World.size_alloc] at z4
  have S4 := Lib.hid ((S3.out.alloc _ _).below hb)
  have B4' := Lib.hid ((B3'.out.alloc (by omega) _).trans (hb.mono (by simp <;> omega)))
  clear hb z30 z31 z32 z33
  clear ca fa ch fh cw fw cl fl
  clear S3 B3'
  have cb := S4.out.cell (List.Mem.head _)
  have fb := S4.out.frozen (List.Mem.head _)
  have ca := S4.out.cell (List.Mem.tail _ (List.Mem.head _))
  have fa := S4.out.frozen (List.Mem.tail _ (List.Mem.head _))
  have ch := S4.out.cell (List.Mem.tail _ (List.Mem.tail _ (List.Mem.head _)))
  have fh := S4.out.frozen (List.Mem.tail _ (List.Mem.tail _ (List.Mem.head _)))
  have cw := S4.out.cell (List.Mem.tail _ (List.Mem.tail _ (List.Mem.tail _ (List.Mem.head _))))
  have fw := S4.out.frozen (List.Mem.tail _ (List.Mem.tail _ (List.Mem.tail _ (List.Mem.head _))))
  have cl := S4.out.cell (List.Mem.tail _ (List.Mem.tail _ (List.Mem.tail _ (List.Mem.tail _ (List.Mem.head _)))))
  have fl := S4.out.frozen (List.Mem.tail _ (List.Mem.tail _ (List.Mem.tail _ (List.Mem.tail _ (List.Mem.head _)))))
  go_wp2_with fail
  refine (sameLink_eq _ _ A3 B3 D E _ _ _ _ _ _ _ _ _ F.1.safe F.1.words _ (S4.out.rd (List.Mem.tail _ (List.Mem.head _))) (S4.out.rd (List.Mem.head _)) (HD.out.below B4'.out) (HE.out.below B4'.out) l1 l4).mono ?_
  rintro e w5 ⟨rfl, hb⟩
  have z5 := hb.size
  have S5 := Lib.hid (S4.out.below hb)
  have B5' := Lib.hid (B4'.out.trans (hb.mono (by omega)))
  clear hb
  clear cb fb ca fa ch fh cw fw cl fl
  clear S4 B4'
  have cb := S5.out.cell (List.Mem.head _)
  have fb := S5.out.frozen (List.Mem.head _)
  have ca := S5.out.cell (List.Mem.tail _ (List.Mem.head _))
  have fa := S5.out.frozen (List.Mem.tail _ (List.Mem.head _))
  have ch := S5.out.cell (List.Mem.tail _ (List.Mem.tail _ (List.Mem.head _)))
  have fh := S5.out.frozen (List.Mem.tail _ (List.Mem.tail _ (List.Mem.head _)))
  have cw := S5.out.cell (List.Mem.tail _ (List.Mem.tail _ (List.Mem.tail _ (List.Mem.head _))))
  have fw := S5.out.frozen (List.Mem.tail _ (List.Mem.tail _ (List.Mem.tail _ (List.Mem.head _))))
  have cl := S5.out.cell (List.Mem.tail _ (List.Mem.tail _ (List.Mem.tail _ (List.Mem.tail _ (List.Mem.head _)))))
  have fl := S5.out.frozen (List.Mem.tail _ (List.Mem.tail _ (List.Mem.tail _ (List.Mem.tail _ (List.Mem.head _)))))
  go_wp2_with fail
  refine (sameLink_eq _ _ A1 B1 A B _ _ _ _ _ _ _ _ _ xs ys _ (S5.out.rd (List.Mem.tail _ (List.Mem.tail _ (List.Mem.tail _ (List.Mem.tail _ (List.Mem.tail _ (List.Mem.head _))))))) (S5.out.rd (List.Mem.tail _ (List.Mem.tail _ (List.Mem.tail _ (List.Mem.tail _ (List.Mem.head _)))))) (HX.out.below B5'.out) (HY.out.below B5'.out) l2 l3).mono ?_
  rintro e w6 ⟨rfl, hb⟩
  have z6 := hb.size
  have S6 := Lib.hid (S5.out.below hb)
  have B6' := Lib.hid (B5'.out.trans (hb.mono (by omega)))
  clear hb
  clear cb fb ca fa ch fh cw fw cl fl
  clear S5 B5'
  have cb := S6.out.cell (List.Mem.head _)
  have fb := S6.out.frozen (List.Mem.head _)
  have ca := S6.out.cell (List.Mem.tail _ (List.Mem.head _))
  have fa := S6.out.frozen (List.Mem.tail _ (List.Mem.head _))
  have ch := S6.out.cell (List.Mem.tail _ (List.Mem.tail _ (List.Mem.head _)))
  have fh := S6.out.frozen (List.Mem.tail _ (List.Mem.tail _ (List.Mem.head _)))
  have cw := S6.out.cell (List.Mem.tail _ (List.Mem.tail _ (List.Mem.tail _ (List.Mem.head _))))
  have fw := S6.out.frozen (List.Mem.tail _ (List.Mem.tail _ (List.Mem.tail _ (List.Mem.head _))))
  have cl := S6.out.cell (List.Mem.tail _ (List.Mem.tail _ (List.Mem.tail _ (List.Mem.tail _ (List.Mem.head _)))))
  have fl := S6.out.frozen (List.Mem.tail _ (List.Mem.tail _ (List.Mem.tail _ (List.Mem.tail _ (List.Mem.head _)))))
  go_wp2_with fail
  have hr := S6.out.range (List.Mem.tail _ (List.Mem.tail _ (List.Mem.tail _ (List.Mem.head _))))
  refine (over_any _ A2 F.1.safe.length c2 _ _ _ (S6.out.own _ (List.Mem.tail _ (List.Mem.tail _ (List.Mem.tail _ (List.Mem.head _))))).1 (by simp only; omega) (by omega)).mono ?_
  rintro e w7 ⟨rfl, hg⟩
  have z7 := hg.size
  have S7 := Lib.hid ((dropTake_at3_6 S6.out).over hg hr (by simp <;> omega) (by simp <;> omega))
  have B7' := Lib.hid (B6'.out.trans (over_below hg hr (by simp only; omega) (by omega)))
  clear hg hr
  clear cb fb ca fa ch fh cw fw cl fl
  clear S6 B6'
  have cb := S7.out.cell (List.Mem.head _)
  have fb := S7.out.frozen (List.Mem.head _)
  have ca := S7.out.cell (List.Mem.tail _ (List.Mem.head _))
  have fa := S7.out.frozen (List.Mem.tail _ (List.Mem.head _))
  have ch := S7.out.cell (List.Mem.tail _ (List.Mem.tail _ (List.Mem.head _)))
  have fh := S7.out.frozen (List.Mem.tail _ (List.Mem.tail _ (List.Mem.head _)))
  have cw := S7.out.cell (List.Mem.tail _ (List.Mem.tail _ (List.Mem.tail _ (List.Mem.head _))))
  have fw := S7.out.frozen (List.Mem.tail _ (List.Mem.tail _ (List.Mem.tail _ (List.Mem.head _))))
  have cl := S7.out.cell (List.Mem.tail _ (List.Mem.tail _ (List.Mem.tail _ (List.Mem.tail _ (List.Mem.head _)))))
  have fl := S7.out.frozen (List.Mem.tail _ (List.Mem.tail _ (List.Mem.tail _ (List.Mem.tail _ (List.Mem.head _)))))
  go_wp2_with fail
  have hr := S7.out.range (List.Mem.tail _ (List.Mem.tail _ (List.Mem.head _)))
  refine (over_any _ B2 F.1.words.length d2 _ _ _ (S7.out.own _ (List.Mem.tail _ (List.Mem.tail _ (List.Mem.head _)))).1 (by simp only; omega) (by omega)).mono ?_
  rintro e w8 ⟨rfl, hg⟩
  have z8 := hg.size
  have S8 := Lib.hid ((dropTake_at2_5 S7.out).over hg hr (by simp <;> omega) (by simp <;> omega))
  have B8' := Lib.hid (B7'.out.trans (over_below hg hr (by simp only; omega) (by omega)))
  clear hg hr
  clear cb fb ca fa ch fh cw fw cl fl
  clear S7 B7'
  have cb := S8.out.cell (List.Mem.head _)
  have fb := S8.out.frozen (List.Mem.head _)
  have ca := S8.out.cell (List.Mem.tail _ (List.Mem.head _))
  have fa := S8.out.frozen (List.Mem.tail _ (List.Mem.head _))
  have ch := S8.out.cell (List.Mem.tail _ (List.Mem.tail _ (List.Mem.head _)))
  have fh := S8.out.frozen (List.Mem.tail _ (List.Mem.tail _ (List.Mem.head _)))
  have cw := S8.out.cell (List.Mem.tail _ (List.Mem.tail _ (List.Mem.tail _ (List.Mem.head _))))
  have fw := S8.out.frozen (List.Mem.tail _ (List.Mem.tail _ (List.Mem.tail _ (List.Mem.head _))))
  have cl := S8.out.cell (List.Mem.tail _ (List.Mem.tail _ (List.Mem.tail _ (List.Mem.tail _ (List.Mem.head _)))))
  have fl := S8.out.frozen (List.Mem.tail _ (List.Mem.tail _ (List.Mem.tail _ (List.Mem.tail _ (List.Mem.head _)))))
  go_wp2_with fail
  have hr := S8.out.range (List.Mem.tail _ (List.Mem.tail _ (List.Mem.tail _ (List.Mem.head _))))
  refine (over_any _ A1 n c1 _ _ _ (S8.out.own _ (List.Mem.tail _ (List.Mem.tail _ (List.Mem.tail _ (List.Mem.head _))))).1 (by simp only; omega) (by omega)).mono ?_
  rintro e w9 ⟨rfl, hg⟩
  have z9 := hg.size
  have S9 := Lib.hid ((dropTake_at3_4 S8.out).over hg hr (by simp <;> omega) (by simp <;> omega))
  have B9' := Lib.hid (B8'.out.trans (over_below hg hr (by simp only; omega) (by omega)))
  clear hg hr
  clear cb fb ca fa ch fh cw fw cl fl
  clear S8 B8'
  have cb := S9.out.cell (List.Mem.head _)
  have fb := S9.out.frozen (List.Mem.head _)
  have ca := S9.out.cell (List.Mem.tail _ (List.Mem.head _))
  have fa := S9.out.frozen (List.Mem.tail _ (List.Mem.head _))
  have ch := S9.out.cell (List.Mem.tail _ (List.Mem.tail _ (List.Mem.head _)))
  have fh := S9.out.frozen (List.Mem.tail _ (List.Mem.tail _ (List.Mem.head _)))
  have cw := S9.out.cell (List.Mem.tail _ (List.Mem.tail _ (List.Mem.tail _ (List.Mem.head _))))
  have fw := S9.out.frozen (List.Mem.tail _ (List.Mem.tail _ (List.Mem.tail _ (List.Mem.head _))))
  have cl := S9.out.cell (List.Mem.tail _ (List.Mem.tail _ (List.Mem.tail _ (List.Mem.tail _ (List.Mem.head _)))))
  have fl := S9.out.frozen (List.Mem.tail _ (List.Mem.tail _ (List.Mem.tail _ (List.Mem.tail _ (List.Mem.head _)))))
  go_wp2_with fail
  have hr := S9.out.range (List.Mem.tail _ (List.Mem.tail _ (List.Mem.head _)))
  refine (over_any _ B1 m d1 _ _ _ (S9.out.own _ (List.Mem.tail _ (List.Mem.tail _ (List.Mem.head _)))).1 (by simp only; omega) (by omega)).mono ?_
  rintro e w10 ⟨rfl, hg⟩
  have z10 := hg.size
  have S10 := Lib.hid ((dropTake_at2_3 S9.out).over hg hr (by simp <;> omega) (by simp <;> omega))
  have B10' := Lib.hid (B9'.out.trans (over_below hg hr (by simp only; omega) (by omega)))
  clear hg hr
  clear cb fb ca fa ch fh cw fw cl fl
  clear S9 B9'
  have cb := S10.out.cell (List.Mem.head _)
  have fb := S10.out.frozen (List.Mem.head _)
  have ca := S10.out.cell (List.Mem.tail _ (List.Mem.head _))
  have fa := S10.out.frozen (List.Mem.tail _ (List.Mem.head _))
  have ch := S10.out.cell (List.Mem.tail _ (List.Mem.tail _ (List.Mem.head _)))
  have fh := S10.out.frozen (List.Mem.tail _ (List.Mem.tail _ (List.Mem.head _)))
  have cw := S10.out.cell (List.Mem.tail _ (List.Mem.tail _ (List.Mem.tail _ (List.Mem.head _))))
  have fw := S10.out.frozen (List.Mem.tail _ (List.Mem.tail _ (List.Mem.tail _ (List.Mem.head _))))
  have cl := S10.out.cell (List.Mem.tail _ (List.Mem.tail _ (List.Mem.tail _ (List.Mem.tail _ (List.Mem.head _)))))
  have fl := S10.out.frozen (List.Mem.tail _ (List.Mem.tail _ (List.Mem.tail _ (List.Mem.tail _ (List.Mem.head _)))))
  go_wp2_with fail
  refine (sameLink_eq _ _ A3 B3 D E _ _ _ _ _ _ _ _ _ F.1.safe F.1.words _ (S10.out.rd (List.Mem.tail _ (List.Mem.head _))) (S10.out.rd (List.Mem.head _)) (HD.out.below B10'.out) (HE.out.below B10'.out) l1 l4).mono ?_
  rintro e w11 ⟨rfl, hb⟩
  have B11' := Lib.hid (B10'.out.trans (hb.mono (by omega)))
  clear hb
  clear cb fb ca fa ch fh cw fw cl fl
  clear S10 B10'
  go_wp2
  go_ret
  exact ⟨rfl, B11'.out⟩
end Go.Proofs.Ytdncdmibmopilaa.Bus
