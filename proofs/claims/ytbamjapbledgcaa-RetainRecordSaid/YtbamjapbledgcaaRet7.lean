/-
  The walk of the law RetainRecord. Conditions: the arguments read, within the form's own reach.
-/
import Derived.Test.YtbamjapbledgcaaRet6
import Derived.Test.YtbamjapbledgcaaO
import Derived.Test.YtbamjapbledgcaaSt
namespace Go.Proofs.Ytbamjapbledgcaa.Ret
open Go.RowKit Go.Proofs.Ytbamjapbledgcaa.W Go.Proofs.Ytbamjapbledgcaa.Ints Go.Proofs.Ytbamjapbledgcaa.Num Go.Proofs.Ytbamjapbledgcaa.Byt

theorem record_len (zs : List Int) (s : Int) : (recordF zs s).1.length ≤ 8020 := by
  unfold recordF
  split
  · simp
  · rename_i h
    split
    · simp only [recB, List.length_append, head_len, four_len, words_len]
      omega
    · simp
theorem fresh_b {w w' : World} {e : Ending} {F : List UInt8 × Int} (h : FreshB w w' e F) :
    ∃ A c, e = .returned (.tuple #[.slice A F.1.length c, .int .i64 F.2]) ∧ Own.ok ⟨w.heap.size, w'.heap.size, 5, 1, A, F.1.length, c, byts F.1⟩ w' ∧ Below w.heap.size w w' := by
  obtain ⟨A, c, he, ho, hb⟩ := h
  exact ⟨A, c, he, Own.mk' ho (Nat.le_refl _), hb⟩
theorem ints_in' {H : Type} {enc : TypeId × Value → H} {w : World} {B : Option Addr} {m d : Nat} (h : O.Op enc Try.prog w 22 [.slice B m d]) : ∃ ys, Rd w 1 B m (ints ys) ∧ m * 8 ≤ 140737488351232 := by
  obtain ⟨A, n, c, zs, e, hnc, hc, hr, _, _⟩ := h.ints Try.underlying22 Try.underlying3 (by kernel_rfl) (by kernel_rfl)
  simp only [List.cons.injEq, Value.slice.injEq, and_true] at e
  obtain ⟨rfl, rfl, rfl⟩ := e
  exact ⟨zs, hr, by omega⟩

set_option maxHeartbeats 3200000 in
theorem walk_Record (H : Type) (enc : TypeId × Value → H) (w : World) (A : Option Addr) (n c : Nat) (hb : O.Op enc Try.prog w 22 [.slice A n c]) (s : Int) (_h1 : (Lit.int .i64 s).wf = true) :
    Calls Try.prog 3 #[.slice A n c, .int .i64 s] w fun e w' => e = .returned (.bool true) ∧ Below w.heap.size w w' := by
  obtain ⟨i0, hi0, hz0, hz1, hz2⟩ := info_parts int_info
  obtain ⟨zs, hr, hn⟩ := ints_in' hb
  have hl := record_len zs s
  generalize hF : recordF zs s = F at hl
  have HF := Lib.hid hF
  have HR := Lib.hid hr
  clear hF hr hb
  go_enter Try.func3, Try.ntmps3
  go_wp2_with fail
  refine (RecordR_any s A n c zs _ HR.out hn).mono ?_
  intro e w1 hf
  rw [HF.out] at hf
  obtain ⟨A1, d1, rfl, o1, hb⟩ := fresh_b hf
  have z1 := hb.size
  have S1 := Lib.hid ((St.nil w1).push o1)
  have B1 := Lib.hid hb
  clear hf o1 hb
  go_wp2_with (at_builtin; refine wpList_append_rd _ rfl (.const (.slice none 0 0)) (.tmp 18) 22 rfl w1.heap.size 3 i0 _ 1 8 Try.underlying22 hi0 hz0 hz1 hz2 rfl (by omega) _ 0 [] rfl (World.ownsRow_nil _ _ _ _) A n c (ints zs) rfl (HR.out.below B1.out) (ones _ _) ?_ ?_ ?_ ?_)
  · unfold maxLen; omega
  · omega
  · simp
  intro v2 w2 ho2 hg2 hat2
  clear hat2
  obtain ⟨A2, d2, rfl, _⟩ := own_shape ho2
  try simp only [Nat.zero_add, List.nil_append] at ho2
  have hb := grow_none (show World.grownBy _ w2 none from hg2)
  have z2 := hb.size
  have S2 := Lib.hid ((S1.out.below hb).push (Own.mk' ho2 (Nat.le_refl _)))
  have B2 := Lib.hid (B1.out.trans (hb.mono (by omega)))
  clear ho2 hg2 hb S1
  go_wp2_with fail
  refine (Record_any s A2 n d2 zs _ (S2.out.rd (List.Mem.head _)) hn).mono ?_
  intro e w3 hf
  rw [HF.out] at hf
  obtain ⟨A3, d3, rfl, o3, hb⟩ := fresh_b hf
  have z3 := hb.size
  have S3 := Lib.hid ((S2.out.below hb).push o3)
  have B3 := Lib.hid (B2.out.trans (hb.mono (by omega)))
  clear hf o3 hb S2
  go_wp2_with fail
  refine (Record_any s A2 n d2 zs _ (S3.out.rd (List.Mem.tail _ (List.Mem.head _))) hn).mono ?_
  intro e w4 hf
  rw [HF.out] at hf
  obtain ⟨A4, d4, rfl, o4, hb⟩ := fresh_b hf
  have z4 := hb.size
  have S4 := Lib.hid ((S3.out.below hb).push o4)
  have B4 := Lib.hid (B3.out.trans (hb.mono (by omega)))
  clear hf o4 hb S3
  go_wp2_with fail
  refine (sameBytes_eq A3 A1 _ d3 d1 F.1 _ (S4.out.rd (List.Mem.tail _ (List.Mem.head _))) (S4.out.rd (List.Mem.tail _ (List.Mem.tail _ (List.Mem.tail _ (List.Mem.head _)))))).mono ?_
  rintro e w' ⟨rfl, rfl⟩
  go_wp2_with fail
  refine (sameBytes_eq A4 A1 _ d4 d1 F.1 _ (S4.out.rd (List.Mem.head _)) (S4.out.rd (List.Mem.tail _ (List.Mem.tail _ (List.Mem.tail _ (List.Mem.head _)))))).mono ?_
  rintro e w' ⟨rfl, rfl⟩
  go_wp2_with fail
  refine (sameInts_any A2 A n n d2 c zs zs _ (S4.out.rd (List.Mem.tail _ (List.Mem.tail _ (List.Mem.head _)))) (HR.out.below B4.out) (by unfold maxLen; omega)).mono ?_
  rintro e w5 ⟨rfl, q, rfl⟩
  rw [show decide (zs = zs) = true from by simp]
  have S5 := Lib.hid (S4.out.drewN q)
  have B5 := Lib.hid (below_drewN B4.out q)
  go_wp2_with fail
  have hrg := S5.out.range (List.Mem.tail _ (List.Mem.head _))
  refine (spoil_any w2.heap.size A3 F.1.length d3 F.1 _ (S5.out.own _ (List.Mem.tail _ (List.Mem.head _))).1 (by simp; omega) (by omega)).mono ?_
  rintro e w6 ⟨rfl, hg⟩
  have S6 : Hid (St w6 [] [⟨w3.heap.size, w4.heap.size, 5, 1, A4, F.1.length, d4, byts F.1⟩, ⟨w.heap.size, w1.heap.size, 5, 1, A1, F.1.length, d1, byts F.1⟩]) := by
    refine St.over (lo := w2.heap.size) (hi := w3.heap.size) (St.keep S5.out (fun _ hk => hk) (fun o ho => ?_)) hg hrg (by simp) (by simp <;> omega)
    simp only [List.mem_cons, List.not_mem_nil, or_false] at ho ⊢
    rcases ho with h | h <;> simp [h]
  have B6 := Lib.hid (B5.out.trans (over_below (N := w.heap.size) hg hrg (by simp only; omega) (by simp; omega)))
  clear hg hrg S4 S5
  go_wp2_with fail
  refine (sameBytes_eq A4 A1 _ d4 d1 F.1 _ (S6.out.rd (List.Mem.head _)) (S6.out.rd (List.Mem.tail _ (List.Mem.head _)))).mono ?_
  rintro e w' ⟨rfl, rfl⟩
  go_wp2
  go_ret
  exact ⟨rfl, B6.out⟩
end Go.Proofs.Ytbamjapbledgcaa.Ret
