/-
  The contract of the statements' own listOf at the call Respond: it answers true where the call, made twice, answers what is wanted, with rows of its own. Conditions: the tasks read and are within the reach; the call's contract.
-/
import Derived.Test.YthnpeekeoaiaoaaTask6
import Derived.Test.YthnpeekeoaiaoaaTask8
import Derived.Test.YthnpeekeoaiaoaaSt
namespace Go.Proofs.Ythnpeekeoaiaoaa.Task
open Go.RowKit Go.Proofs.Ythnpeekeoaiaoaa.W Go.Proofs.Ythnpeekeoaiaoaa.Ints

def CallRespond (w : World) (ts : List TD) (n : Nat) (F : List Int × (Int × Int)) : Prop :=
  ∀ (W : World) (A : Option Addr) (c : Nat), Below w.heap.size w W → Rd W 5 A n (tasksV ts) → n ≤ c → Calls Try.prog 10 #[.slice A n c] W fun e W' => FreshT W W' e F

theorem size_drewNRespond (w : World) (k : Nat) : (w.drewN k).heap.size = w.heap.size := rfl
theorem dropRespond_at2_3 {w : World} {Ks : List Box} {a0 a1 a2 : Own} (h : St w Ks [a0, a1, a2]) : St w Ks [a0, a1] :=
  h.keep (fun _ hk => hk) (fun o ho => by simp only [List.mem_cons, List.not_mem_nil, or_false] at ho ⊢; rcases ho with h | h <;> simp [h])
theorem dropRespond_at1_2 {w : World} {Ks : List Box} {a0 a1 : Own} (h : St w Ks [a0, a1]) : St w Ks [a0] :=
  h.keep (fun _ hk => hk) (fun o ho => by simp only [List.mem_cons, List.not_mem_nil, or_false] at ho ⊢; exact .inl ho)
set_option maxRecDepth 100000 in
set_option maxHeartbeats 6400000 in
theorem listOf_Respond (A : Option Addr) (n c : Nat) (ts : List TD) (F : List Int × (Int × Int)) (D : Option Addr) (dw : Nat) (w : World)
    (hx : Rd w 5 A n (tasksV ts)) (hn : n * 48 ≤ 140737488351232) (hd : Rd w 1 D F.1.length (ints F.1)) (hl : F.1.length * 8 ≤ 140737488351232) (hcall : CallRespond w ts n F) :
    Calls Try.prog 9 #[.func (.func 10) #[] #[], .slice A n c, .slice D F.1.length dw, faultV F.2] w fun e w' => e = .returned (.bool true) ∧ Below w.heap.size w w' := by
  obtain ⟨i0, hi0, hz0, hz1, hz2⟩ := info_parts task_info
  have l1 : F.1.length ≤ maxLen := by unfold maxLen; omega
  have HX := Lib.hid hx
  have HD := Lib.hid hd
  have HC := Lib.hid hcall
  clear hx hd hcall
  go_enter Try.func9, Try.ntmps9
  go_wp2_with (at_builtin; refine wpList_append_rd _ rfl (.const (.slice none 0 0)) (.tmp 15) 22 rfl (w.heap.size + 1) 42 i0 _ 5 48 Try.underlying22 hi0 hz0 hz1 hz2 rfl (by omega) _ 0 [] rfl (World.ownsRow_nil _ _ _ _) A n c (tasksV ts) rfl (HX.out.alloc _) (tasks_one _) ?_ ?_ ?_ ?_)
  · unfold maxLen; omega
  · omega
  · simp
  intro v1 w1 ho1 hg1 hat1
  clear hat1
  obtain ⟨A1, c1, rfl, hs1, hs2, _⟩ := own_shape ho1
  try simp only [Nat.zero_add, List.nil_append] at ho1 hs1
  have hb := grow_none (show World.grownBy _ w1 none from hg1)
  have z1 := hb.size
  simp only [World.size_alloc] at z1
  have S1 := Lib.hid ((((St.nil w).alloc 26 #[.int .i64 F.2.1, .int .i64 F.2.2, .int .i64 0]).below hb).push (Own.mk' ho1 (Nat.le_refl _)))
  have B1 := Lib.hid ((below_alloc _).trans (hb.mono (by simp)))
  clear ho1 hg1 hb
  go_wp2_with fail
  refine (HC.out _ A1 c1 B1.out (S1.out.rd (List.Mem.head _)) hs1).mono ?_
  rintro e w2 ⟨A2, c2, rfl, ho, hb⟩
  have z2 := hb.size
  have S2 := Lib.hid (((S1.out.below hb).push (Own.mk' ho (Nat.le_refl _))).alloc 26 #[.int .i64 F.2.1, .int .i64 F.2.2, .int .i64 0])
  have B2 := Lib.hid ((B1.out.trans (hb.mono (by omega))).alloc (by omega) (.cells #[.int .i64 F.2.1, .int .i64 F.2.2, .int .i64 0] 26))
  clear ho hb S1 B1
  go_wp2_with fail
  refine (HC.out _ A1 c1 B2.out (S2.out.rd (List.Mem.tail _ (List.Mem.head _))) hs1).mono ?_
  rintro e w3 ⟨A3, c3, rfl, ho, hb⟩
  have z3 := hb.size
  simp only [World.size_alloc] at z3
  have S3 := Lib.hid (((S2.out.below hb).push (Own.mk' ho (Nat.le_refl _))).alloc 26 #[.int .i64 F.2.1, .int .i64 F.2.2, .int .i64 0])
  have B3 := Lib.hid ((B2.out.trans (hb.mono (by simp; omega))).alloc (by omega) (.cells #[.int .i64 F.2.1, .int .i64 F.2.2, .int .i64 0] 26))
  clear ho hb S2 B2
  have cb := (S3.out.blk _ (List.Mem.head _)).cell
  have ca := S3.out.cell (List.Mem.tail _ (List.Mem.head _))
  have cw := S3.out.cell (List.Mem.tail _ (List.Mem.tail _ (List.Mem.head _)))
  go_wp2_with fail
  refine (sameInts_any A2 D _ _ c2 dw F.1 F.1 _ (S3.out.rd (List.Mem.tail _ (List.Mem.head _))) (HD.out.below B3.out) l1).mono ?_
  rintro e w4 ⟨rfl, q4, rfl⟩
  rw [show decide (F.1 = F.1) = true from by simp]
  go_wp2_with fail
  refine (sameInts_any A3 D _ _ c3 dw F.1 F.1 _ (S3.out.drewN q4 |>.rd (List.Mem.head _)) ((HD.out.below B3.out).drewN q4) l1).mono ?_
  rintro e w5 ⟨rfl, q5, rfl⟩
  rw [show decide (F.1 = F.1) = true from by simp]
  go_wp2_with fail
  refine (sameTasks_eq A A1 n c c1 ts _ ((HX.out.below B3.out).drewN _) (S3.out.drewN _ |>.rd (List.Mem.tail _ (List.Mem.tail _ (List.Mem.head _)))) (by omega)).mono ?_
  rintro e w6 ⟨rfl, q6, rfl⟩
  generalize hW : World.drewN (World.drewN _ _) _ = W
  have eS : ∀ (Ks : List Box) (Os : List Own), St (w3.alloc (.cells #[.int .i64 F.2.1, .int .i64 F.2.2, .int .i64 0] 26)) Ks Os → St W Ks Os := fun Ks Os h => by rw [← hW]; exact (h.drewN _).drewN _
  have S6 := Lib.hid (eS _ _ S3.out)
  have B6 : Hid (Below w.heap.size w W) := by rw [← hW]; exact below_drewN (below_drewN B3.out _) _
  have zW : W.heap.size = w3.heap.size + 1 := by rw [← hW]; simp only [size_drewNRespond, World.size_alloc]
  clear hW eS S3 B3 cb ca cw
  go_wp2
  go_loopw [14] (fun i wr => ∃ k : Nat, k ≤ n ∧ i = .int .i64 k ∧ (∃ ys, wr.ownsRow (w.heap.size + 1) 42 5 (.slice A1 n c1) n ys) ∧ Hid (W.grownBy wr (Value.slice A1 n c1).ownBlock)) (fun i _ => n - (intOf i).toNat)
  case atStart => exact ⟨0, Nat.zero_le _, rfl, ⟨_, (S6.out.own _ (List.Mem.tail _ (List.Mem.tail _ (List.Mem.head _)))).1⟩, Grow.refl _ _⟩
  case round =>
    obtain ⟨k, hk, rfl, ⟨ys, hy⟩, hg⟩ := hrel
    by_cases hlt : k < n
    · obtain ⟨g, rfl, hbg, hgl⟩ := own_head hy (by omega)
      have hyl : ys.length = n * 5 := hy.1
      have hcell : ∀ j, j < 5 → ∃ u, wr.cell? ⟨g, k * 5 + j, none⟩ = some u := fun j hj => by
        rw [hy.cellAt (k * 5 + j) (by omega)]
        exact ⟨_, List.getElem?_eq_getElem (by omega)⟩
      obtain ⟨u0, h0⟩ := hcell 0 (by omega)
      rw [Nat.add_zero] at h0
      obtain ⟨u1, h1⟩ := hcell 1 (by omega)
      obtain ⟨u2, h2⟩ := hcell 2 (by omega)
      obtain ⟨u3, h3⟩ := hcell 3 (by omega)
      obtain ⟨u4, h4⟩ := hcell 4 (by omega)
      have hfz := fun j => hy.frozenAt j
      obtain ⟨s0, t0⟩ := hy.stored (k * 5) (.string ByteArray.empty)
      obtain ⟨s1, t1⟩ := s0.stored (k * 5 + 1) (.int .i64 0)
      obtain ⟨s2, t2⟩ := s1.stored (k * 5 + 2) (.int .i64 0)
      obtain ⟨s3, t3⟩ := s2.stored (k * 5 + 3) (.int .i64 0)
      obtain ⟨s4, t4⟩ := s3.stored (k * 5 + 4) (.int .i64 0)
      have tt := Grow.trans (Grow.trans (Grow.trans (Grow.trans t0 t1 (fun _ _ => .inl rfl)) t2 (fun _ _ => .inl rfl)) t3 (fun _ _ => .inl rfl)) t4 (fun _ _ => .inl rfl)
      have HS := Lib.hid s4
      have HT := Lib.hid tt
      have hk0 : (0 : Int) ≤ (k : Int) := by omega
      have hkn : (k : Int) < (n : Int) := by omega
      clear hy hcell s0 s1 s2 s3 s4 t0 t1 t2 t3 t4 tt hyl
      go_wp2
      go_roundw
      case rel => exact ⟨k + 1, by omega, by go_num, ⟨_, HS.out⟩, Grow.trans hg.out HT.out (fun _ _ => .inl rfl)⟩
      case measure => simp [intOf]; omega
    · have e : k = n := by omega
      subst e
      have hr := S6.out.range (List.Mem.tail _ (List.Mem.tail _ (List.Mem.head _)))
      have z7 := hg.out.size
      have S7 := Lib.hid ((dropRespond_at2_3 S6.out).over hg.out hr (by simp <;> omega) (by simp <;> omega))
      have B7 := Lib.hid (B6.out.trans (over_below hg.out hr (by simp only; omega) (by omega)))
      clear hr S6 B6 hy hg
      go_wp2_with fail
      have hr := S7.out.range (List.Mem.tail _ (List.Mem.head _))
      refine (over_any _ A2 F.1.length c2 _ _ _ (S7.out.own _ (List.Mem.tail _ (List.Mem.head _))).1 (by simp only; omega) (by omega)).mono ?_
      rintro e w8 ⟨rfl, hg⟩
      have z8 := hg.size
      have S8 := Lib.hid ((dropRespond_at1_2 S7.out).over hg hr (by simp <;> omega) (by simp <;> omega))
      have B8 := Lib.hid (B7.out.trans (over_below hg hr (by simp only; omega) (by omega)))
      clear hg hr S7 B7
      go_wp2_with fail
      refine (sameInts_any A3 D _ _ c3 dw F.1 F.1 _ (S8.out.rd (List.Mem.head _)) (HD.out.below B8.out) l1).mono ?_
      rintro e w9 ⟨rfl, q9, rfl⟩
      rw [show decide (F.1 = F.1) = true from by simp]
      go_wp2
      go_ret
      exact ⟨rfl, below_drewN B8.out _⟩
end Go.Proofs.Ythnpeekeoaiaoaa.Task
