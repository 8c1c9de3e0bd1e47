/-
  Records: the words' test, magic, slices.Clone of bytes. Conditions: what is read is within the reach.
-/
import Derived.Test.YtbamjapbledgcaaRet3
import Derived.WalkSpells
namespace Go.Proofs.Ytbamjapbledgcaa.Ret
open Go.RowKit Go.Proofs.Ytbamjapbledgcaa.W Go.Proofs.Ytbamjapbledgcaa.Ints Go.Proofs.Ytbamjapbledgcaa.Byt Go.Proofs.Ytbamjapbledgcaa.Num

theorem all_take {p : Int → Bool} {zs : List Int} {k : Nat} (hk : k < zs.length) (h : (zs.take k).all p = true) (hp : p (zs.getD k 0) = true) : (zs.take (k + 1)).all p = true := by
  rw [List.take_succ_eq_append_getElem hk, List.all_append, h]
  simp [List.getD_eq_getElem?_getD, List.getElem?_eq_getElem hk] at hp
  simp [hp]
theorem all_not {p : Int → Bool} {zs : List Int} {k : Nat} (hk : k < zs.length) (hp : p (zs.getD k 0) = false) : zs.all p = false := by
  rw [List.all_eq_false]
  refine ⟨zs[k], List.getElem_mem hk, ?_⟩
  simp [List.getD_eq_getElem?_getD, List.getElem?_eq_getElem hk] at hp
  simp [hp]
theorem out_any (n : Int) (w : World) :
    Calls Try.prog 11 #[.int .i64 n] w fun e w' => e = .returned (.bool (!goodB n)) ∧ w = w' := by
  by_cases h1 : n < 0
  · have e : goodB n = false := by simp [goodB]; omega
    rw [e]
    clear e
    go_enter Try.func11, Try.ntmps11
    go_wp2
    go_ret
    exact ⟨rfl, rfl⟩
  · have e : goodB n = decide (n ≤ 4294967295) := by simp [goodB]; omega
    rw [e]
    clear e
    go_enter Try.func11, Try.ntmps11
    go_wp2
    go_ret
    refine ⟨ret_bool ?_, rfl⟩
    rw [Bool.eq_iff_iff]
    simp
set_option maxHeartbeats 400000 in
theorem IndexFunc_any (A : Option Addr) (n c : Nat) (zs : List Int) (w : World) (hr : Rd w 1 A n (ints zs)) (hn : n ≤ maxLen) :
    Calls Try.prog 17 #[.slice A n c, .func (.func 11) #[] #[]] w fun e w' => (∃ k : Int, e = .returned (.int .i64 k) ∧ (decide (0 ≤ k) = !zs.all goodB)) ∧ w = w' := by
  unfold maxLen at hn
  have HL := Lib.hid (rd_len hr)
  have HR := Lib.hid hr
  clear hr
  go_enter Try.func17, Try.ntmps17
  go_wp2
  go_loop [5, 8] (fun _ i => ∃ k : Nat, k ≤ n ∧ i = .int .i64 k ∧ Hid ((zs.take k).all goodB = true)) (fun _ i => n - (intOf i).toNat)
  case atStart => exact ⟨0, Nat.zero_le _, rfl, by simp [Hid]⟩
  case round =>
    obtain ⟨k, hk, rfl, ha⟩ := hrel
    by_cases hlt : k < n
    · obtain ⟨b, o, rfl, hc⟩ := rd_at HR.out (by omega)
      have h1 := hc k hlt
      clear hc
      generalize hu : zs.getD k 0 = u at h1
      have HU := Lib.hid hu
      clear hu
      cases hw : goodB u
      all_goals have HW := Lib.hid hw
      all_goals clear hw
      all_goals go_wp2_with (go_at_call 11; refine (out_any _ _).mono ?_; rintro e w' ⟨rfl, rfl⟩; rw [HW.out])
      · go_ret
        refine ⟨⟨k, rfl, ?_⟩, rfl⟩
        rw [all_not (p := goodB) (k := k) (by rw [HL.out]; exact hlt) (by rw [HU.out]; exact HW.out)]
        simp
      · go_round
        case rel => exact ⟨k + 1, by omega, by go_num, all_take (by rw [HL.out]; exact hlt) ha.out (by rw [HU.out]; exact HW.out)⟩
        case measure => simp [intOf]; omega
    · go_wp2
      go_ret
      refine ⟨⟨-1, rfl, ?_⟩, rfl⟩
      have h := ha.out
      rw [List.take_of_length_le (by rw [HL.out]; omega)] at h
      rw [h]
      simp

theorem ContainsFunc_any (A : Option Addr) (n c : Nat) (zs : List Int) (w : World) (hr : Rd w 1 A n (ints zs)) (hn : n ≤ maxLen) :
    Calls Try.prog 12 #[.slice A n c, .func (.func 11) #[] #[]] w fun e w' => e = .returned (.bool (!zs.all goodB)) ∧ w = w' := by
  have HR := Lib.hid hr
  clear hr
  go_enter Try.func12, Try.ntmps12
  go_wp2_with fail
  refine (IndexFunc_any A n c zs _ HR.out hn).mono ?_
  rintro e w' ⟨⟨k, rfl, hk⟩, rfl⟩
  have HK := Lib.hid hk
  clear hk
  go_wp2
  go_ret
  exact ⟨ret_bool (by rw [← HK.out]), rfl⟩

theorem magic_any (w : World) : Calls Try.prog 13 #[] w fun e w' => e = .returned (.agg #[.int .u8 80, .int .u8 87, .int .u8 82, .int .u8 49]) ∧ Below w.heap.size w w' := by
  have cb := (Blk.new w 35 #[.int .u8 80, .int .u8 87, .int .u8 82, .int .u8 49]).cell
  go_enter Try.func13, Try.ntmps13
  go_wp2
  refine bodyPost_ret (v := .agg #[.int .u8 80, .int .u8 87, .int .u8 82, .int .u8 49]) ?_ rfl ⟨rfl, below_alloc _⟩
  simp [results, Try.results13, go_sem, cb]

set_option maxHeartbeats 400000 in
theorem CloneB_any (a : Addr) (n c : Nat) (bs : List UInt8) (w : World) (hr : Rd w 1 (some a) n (byts bs)) (hn : n ≤ 140737488351232) :
    Calls Try.prog 14 #[.slice (some a) n c] w fun e w' => ∃ A' c', e = .returned (.slice A' n c') ∧ w'.ownsRow w.heap.size 5 1 (.slice A' n c') n (byts bs) ∧ Below w.heap.size w w' := by
  obtain ⟨i0, hi0, hz0, hz1, hz2⟩ := info_parts u8_info
  have HR := Lib.hid hr
  clear hr
  have hq := fun (W : World) (a : Option Addr) (l c : Nat) => Lib.run_eql_slice_nil (P := Try.prog) W 23 5 a l c 0 0 Try.underlying23
  go_enter Try.func14, Try.ntmps14
  go_wp2_with (at_builtin; refine wpList_append_rd _ rfl (.tmp 5) (.tmp 6) 23 rfl w.heap.size 5 i0 _ 1 1 Try.underlying23 hi0 hz0 hz1 hz2 rfl (by omega) _ 0 [] rfl ⟨by simp, .inr ⟨w.heap.size, 0, #[], rfl, Nat.le_refl _, heap_alloc_new w _, Nat.le_refl _, Nat.zero_le _, rfl, rfl⟩⟩ (some a) n c (byts bs) rfl (HR.out.alloc _) ?_ ?_ ?_ ?_ ?_)
  · intro u hu
    obtain ⟨x, _, rfl⟩ := List.mem_map.1 hu
    rfl
  · unfold maxLen; omega
  · omega
  · simp
  · intro v' w1 ho1 hg1 hat1
    obtain ⟨A', c', rfl, _⟩ := own_shape ho1
    try simp only [Nat.zero_add, List.nil_append] at ho1
    have HO := Lib.hid ho1
    have HG := Lib.hid hg1
    clear ho1 hg1 hat1
    go_wp2
    go_ret
    refine ⟨A', c', by first | rfl | simp, HO.out, ?_⟩
    exact (below_alloc _).grown HG.out (by simp) (fun k hk => by simp [Value.ownBlock] at hk; omega)
end Go.Proofs.Ytbamjapbledgcaa.Ret
