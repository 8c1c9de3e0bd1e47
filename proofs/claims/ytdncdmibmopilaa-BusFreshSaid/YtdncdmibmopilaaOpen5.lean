/-
  The walk of the law BusOpen. Conditions: the arguments read, within the form's own reach.
-/
import Derived.Test.YtdncdmibmopilaaOpen4
import Derived.Test.YtdncdmibmopilaaRecs
import Derived.Test.YtdncdmibmopilaaSt
namespace Go.Proofs.Ytdncdmibmopilaa.Bus
open Go.RowKit Go.Proofs.Ytdncdmibmopilaa.W Go.Proofs.Ytdncdmibmopilaa.Ints Go.Proofs.Ytdncdmibmopilaa.Byt Go.Proofs.Ytdncdmibmopilaa.Num

theorem bytes_in {H : Type} {enc : TypeId × Value → H} {w : World} {A : Option Addr} {n c : Nat} (h : O.Op enc Try.prog w 31 [.slice A n c]) :
    ∃ bs : List UInt8, n ≤ c ∧ c ≤ 140737488351232 ∧ Rd w 1 A n (byts bs) := by
  obtain ⟨A', n', c', xs, e, h1, h2, h3, _, _⟩ := h.recs (sz := 1) (bt := 1) (f := fun b : UInt8 => [Value.int .u8 (b.toNat : Int)]) (Pr := fun _ => True) (fun _ => rfl) (by decide) 0 Try.underlying31 (by kernel_rfl) (by kernel_rfl)
    (fun cs hc => by
      obtain ⟨z, e, h1, h2⟩ := hc.u8 Try.underlying5
      refine ⟨UInt8.ofNat z.toNat, ?_, trivial⟩
      have : ((UInt8.ofNat z.toNat).toNat : Int) = z := by simp; omega
      rw [e, this])
  simp only [List.cons.injEq, Value.slice.injEq, and_true] at e
  obtain ⟨rfl, rfl, rfl⟩ := e
  exact ⟨xs, h1, by omega, by rw [← List.map_eq_flatMap] at h3; exact h3⟩
theorem open_len {bs : List UInt8} : (openF bs).1.2.2.length ≤ 60 := by
  unfold openF
  repeat' split
  all_goals simp [told_len]
  omega

set_option maxRecDepth 100000 in
set_option maxHeartbeats 3200000 in
theorem walk_Open (H : Type) (enc : TypeId × Value → H) (w : World) (A : Option Addr) (n c : Nat) (ho : O.Op enc Try.prog w 31 [.slice A n c]) :
    Calls Try.prog 4 #[.slice A n c] w fun e w' => e = .returned (.bool true) ∧ Below w.heap.size w w' := by
  obtain ⟨i0, hi0, hz0, hz1, hz2⟩ := info_parts u8_info
  obtain ⟨bs, hnc, hc, hr⟩ := bytes_in ho
  clear ho
  have h60 := open_len (bs := bs)
  have hl := brd_len hr
  generalize hF : openF bs = F at *
  obtain ⟨⟨st, sq, zs⟩, er⟩ := F
  simp only at h60
  have HF := Lib.hid hF
  have HR := Lib.hid hr
  clear hF hr
  go_enter Try.func4, Try.ntmps4
  go_wp2_with fail
  refine (OpenR_any A n c bs _ HR.out hnc hc).mono ?_
  intro e w1 hf
  rw [HF.out] at hf
  obtain ⟨A1, d1, rfl, o1, hb⟩ := hf
  simp only at o1
  have z1 := hb.size
  have S1 := Lib.hid ((((St.nil w).below hb).push (Own.mk' o1 (Nat.le_refl _))).alloc 33 #[.int .i64 st, .int .i64 sq, .slice A1 zs.length d1])
  have B1 := Lib.hid (hb.alloc hb.size (.cells #[.int .i64 st, .int .i64 sq, .slice A1 zs.length d1] 33))
  clear o1 hb
  go_wp2_with (at_builtin; refine wpList_append_rd _ rfl (.const (.slice none 0 0)) (.tmp 19) 31 rfl (w1.heap.size + 1) 5 i0 _ 1 1 Try.underlying31 hi0 hz0 hz1 hz2 rfl (by omega) _ 0 [] rfl (World.ownsRow_nil _ _ _ _) A n c (byts bs) rfl (HR.out.below B1.out) ?_ ?_ ?_ ?_ ?_)
  · intro u hu
    obtain ⟨x, _, rfl⟩ := List.mem_map.1 hu
    rfl
  · unfold maxLen; omega
  · omega
  · simp
  intro v2 w2 ho2 hg2 hat2
  clear hat2
  obtain ⟨A2, d2, rfl, hs1, hs2, _⟩ := own_shape ho2
  try simp only [Nat.zero_add, List.nil_append] at ho2 hs1
  have hb := grow_none (show World.grownBy _ w2 none from hg2)
  have z2 := hb.size
  simp only [World.size_alloc] at z2
  have S2 := Lib.hid ((S1.out.below hb).push (Own.mk' ho2 (Nat.le_refl _)))
  have B2 := Lib.hid (B1.out.trans (hb.mono (by first | omega | (simp; omega))))
  clear ho2 hg2 hb S1
  go_wp2_with fail
  refine (Open_any A2 n d2 bs _ (S2.out.rd (List.Mem.head _)) hs1 (by omega) hs2).mono ?_
  intro e w3 hf
  rw [HF.out] at hf
  obtain ⟨A3, d3, rfl, o3, hb⟩ := hf
  simp only at o3
  have z3 := hb.size
  have S3 := Lib.hid ((S2.out.below hb).push (Own.mk' o3 (Nat.le_refl _)))
  have B3 := Lib.hid (B2.out.trans (hb.mono (by omega)))
  clear o3 hb S2
  go_wp2_with fail
  refine (Open_any A2 n d2 bs _ (S3.out.rd (List.Mem.tail _ (List.Mem.head _))) hs1 (by omega) hs2).mono ?_
  intro e w4 hf
  rw [HF.out] at hf
  obtain ⟨A4, d4, rfl, o4, hb⟩ := hf
  simp only at o4
  have z4 := hb.size
  have S4 := Lib.hid ((S3.out.below hb).push (Own.mk' o4 (Nat.le_refl _)))
  have B4 := Lib.hid (B3.out.trans (hb.mono (by omega)))
  clear o4 hb S3
  have ct := (S4.out.blk _ (List.Mem.head _)).cell
  go_wp2_with fail
  have l1 : zs.length ≤ maxLen := by unfold maxLen; omega
  refine (sameInts_any A3 A1 _ _ d3 d1 zs zs _ (S4.out.rd (List.Mem.tail _ (List.Mem.head _))) (S4.out.rd (List.Mem.tail _ (List.Mem.tail _ (List.Mem.tail _ (List.Mem.head _))))) l1).mono ?_
  rintro e w5 ⟨rfl, q5, rfl⟩
  rw [show decide (zs = zs) = true from by simp]
  go_wp2_with fail
  refine (sameInts_any A4 A1 _ _ d4 d1 zs zs _ ((S4.out.drewN q5).rd (List.Mem.head _)) ((S4.out.drewN q5).rd (List.Mem.tail _ (List.Mem.tail _ (List.Mem.tail _ (List.Mem.head _))))) l1).mono ?_
  rintro e w6 ⟨rfl, q6, rfl⟩
  rw [show decide (zs = zs) = true from by simp]
  go_wp2_with fail
  refine (sameBytes_eq A2 A n d2 c bs _ ((S4.out.drewN (q5 + q6)).rd (List.Mem.tail _ (List.Mem.tail _ (List.Mem.head _)))) ((HR.out.below B4.out).drewN (q5 + q6))).mono ?_
  rintro e w7 ⟨rfl, rfl⟩
  have S5 := Lib.hid (S4.out.drewN (q5 + q6))
  have B5 := Lib.hid (below_drewN B4.out (q5 + q6))
  generalize hW : World.drewN _ _ = W at *
  have zW : W.heap.size = w4.heap.size := by rw [← hW]; rfl
  clear hW S4 B4 ct
  go_wp2_with fail
  have hrg := S5.out.range (List.Mem.tail _ (List.Mem.tail _ (List.Mem.head _)))
  refine (spoil_any (w1.heap.size + 1) A2 n d2 bs _ (S5.out.own _ (List.Mem.tail _ (List.Mem.tail _ (List.Mem.head _)))).1 (by first | omega | (simp only; omega)) (by omega)).mono ?_
  rintro e w8 ⟨rfl, hg⟩
  have z8 := hg.size
  have S6 : Hid (St w8 [⟨w1.heap.size, 33, #[.int .i64 st, .int .i64 sq, .slice A1 zs.length d1]⟩] [⟨w3.heap.size, w4.heap.size, 3, 1, A4, zs.length, d4, ints zs⟩, ⟨w2.heap.size, w3.heap.size, 3, 1, A3, zs.length, d3, ints zs⟩, ⟨w.heap.size, w1.heap.size, 3, 1, A1, zs.length, d1, ints zs⟩]) := by
    refine St.over (lo := w1.heap.size + 1) (hi := w2.heap.size) (St.keep S5.out (fun _ hk => hk) (fun o ho => ?_)) hg hrg (by simp) (by simp <;> omega)
    simp only [List.mem_cons, List.not_mem_nil, or_false] at ho ⊢
    rcases ho with h | h | h <;> simp [h]
  have B6 := Lib.hid (B5.out.trans (over_below (N := w.heap.size) hg hrg (by first | omega | (simp only; omega)) (by first | omega | (simp; omega))))
  clear hg hrg S5 B5
  go_wp2_with fail
  have hrg := S6.out.range (List.Mem.tail _ (List.Mem.head _))
  refine (over_any _ A3 zs.length d3 _ _ _ (S6.out.own _ (List.Mem.tail _ (List.Mem.head _))).1 (by first | omega | (simp only; omega)) (by omega)).mono ?_
  rintro e w9 ⟨rfl, hg⟩
  have S7 : Hid (St w9 [⟨w1.heap.size, 33, #[.int .i64 st, .int .i64 sq, .slice A1 zs.length d1]⟩] [⟨w3.heap.size, w4.heap.size, 3, 1, A4, zs.length, d4, ints zs⟩, ⟨w.heap.size, w1.heap.size, 3, 1, A1, zs.length, d1, ints zs⟩]) := by
    refine St.over (lo := w2.heap.size) (hi := w3.heap.size) (St.keep S6.out (fun _ hk => hk) (fun o ho => ?_)) hg hrg (by simp <;> omega) (by simp <;> omega)
    simp only [List.mem_cons, List.not_mem_nil, or_false] at ho ⊢
    rcases ho with h | h <;> simp [h]
  have B7 := Lib.hid (B6.out.trans (over_below (N := w.heap.size) hg hrg (by first | omega | (simp only; omega)) (by first | omega | (simp; omega))))
  clear hg hrg S6 B6
  have ct := (S7.out.blk _ (List.Mem.head _)).cell
  go_wp2_with fail
  refine (sameInts_any A4 A1 _ _ d4 d1 zs zs _ (S7.out.rd (List.Mem.head _)) (S7.out.rd (List.Mem.tail _ (List.Mem.head _))) l1).mono ?_
  rintro e w10 ⟨rfl, q, rfl⟩
  rw [show decide (zs = zs) = true from by simp]
  go_wp2
  go_ret
  exact ⟨rfl, below_drewN B7.out _⟩
end Go.Proofs.Ytdncdmibmopilaa.Bus
