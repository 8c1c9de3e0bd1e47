/-
  The walk of the law TasksBest. Conditions: the arguments read, within the form's own reach.
-/
import Derived.Test.YthnpeekeoaiaoaaBst4
import Derived.Test.YthnpeekeoaiaoaaOrd3
import Derived.Test.YthnpeekeoaiaoaaOrd4
import Derived.Test.YthnpeekeoaiaoaaMet7
namespace Go.Proofs.Ythnpeekeoaiaoaa.Task
open Go.RowKit Go.Proofs.Ythnpeekeoaiaoaa.W Go.Proofs.Ythnpeekeoaiaoaa.Ints

theorem duties4 (A : Option Addr) (n c : Nat) (l : List DU) (w : World) (hr : Rd w 4 A n (duV l)) (hd : ∀ d ∈ l, d.ok) {ts : List TD} {N : Nat} (hts : dutiesF l 4 true = ts) (hN : ts.length = N) :
    Calls Try.prog 15 #[.slice A n c, .int .i64 4, .bool true] w fun e w' => ∃ A' c', e = .returned (.slice A' N c') ∧ w'.ownsRow w.heap.size 42 5 (.slice A' N c') N (tasksV ts) ∧ Below w.heap.size w w' := by
  subst hN
  subst hts
  exact duties_any A n c 4 l true w hr hd (by omega)

set_option maxRecDepth 100000 in
set_option maxHeartbeats 6400000 in
theorem Best_slow (A : Option Addr) (n c : Nat) (w : World) (ts : List TD) (N : Nat) (s : Int)
    (hdu : ∀ w', Below w.heap.size w w' → Calls Try.prog 15 #[.slice A n c, .int .i64 4, .bool true] w' fun e w'' => ∃ A' c', e = .returned (.slice A' N c') ∧ w''.ownsRow w'.heap.size 42 5 (.slice A' N c') N (tasksV ts) ∧ Below w'.heap.size w' w'')
    (hre : ∀ w' A' c', Rd w' 5 A' N (tasksV ts) → N ≤ c' → Calls Try.prog 17 #[.slice A' N c'] w' fun e w'' => ∃ A3 c3, e = .returned (.tuple #[.slice A3 0 c3, faultV (13, s)]) ∧ w''.ownsRow w'.heap.size 3 1 (.slice A3 0 c3) 0 (ints []) ∧ Below w'.heap.size w' w'')
    (hsh : ∀ w' A' c', Rd w' 5 A' N (tasksV ts) → N ≤ c' → c' ≤ maxLen → Calls Try.prog 19 #[.slice A' N c', .slice none 0 0, .func (.func 18) #[] #[]] w' fun e w'' => e = .returned (.bool false) ∧ Below w'.heap.size w' w'') :
    Calls Try.prog 7 #[.slice A n c] w fun e w' => e = .returned (.bool true) ∧ Below w.heap.size w w' := by
  have HDU := Lib.hid hdu
  have HRE := Lib.hid hre
  have HSH := Lib.hid hsh
  clear hdu hre hsh
  go_enter Try.func7, Try.ntmps7
  go_wp2_with fail
  refine (known_any _).mono ?_
  rintro e w1 ⟨rfl, hb⟩
  have M1 := Lib.hid ((Mem.start w).below hb)
  clear hb
  go_wp2_with fail
  refine (HDU.out _ M1.out.bel).mono ?_
  rintro e w2 ⟨A2, c2, rfl, ho, hb⟩
  have M2 := Lib.hid (M1.out.made hb ho)
  clear ho hb M1
  have hNc := (M2.out.shapeO 0 rfl).1
  have hcm := (M2.out.shapeO 0 rfl).2.1
  go_wp2_with fail
  refine (HRE.out _ A2 c2 (M2.out.rdO 0 rfl) hNc).mono ?_
  rintro e w3 ⟨A3, c3, rfl, ho, hb⟩
  have M3 := Lib.hid ((M2.out.made hb ho).alloc 26 #[.int .i64 13, .int .i64 s, .int .i64 0])
  clear ho hb M2
  have k0 := M3.out.cellK 0 rfl
  go_wp2_with fail
  refine (HSH.out _ A2 c2 (M3.out.rdO 1 rfl) hNc hcm).mono ?_
  rintro e w4 ⟨rfl, hb⟩
  have hb := Lib.hid (M3.out.below hb).bel
  go_wp2
  go_ret
  exact ⟨rfl, hb.out⟩

set_option maxRecDepth 100000 in
set_option maxHeartbeats 6400000 in
theorem Best_ok (A : Option Addr) (n c : Nat) (w : World) (ts : List TD) (N : Nat) (hN16 : N ≤ 16)
    (hdu : ∀ w', Below w.heap.size w w' → Calls Try.prog 15 #[.slice A n c, .int .i64 4, .bool true] w' fun e w'' => ∃ A' c', e = .returned (.slice A' N c') ∧ w''.ownsRow w'.heap.size 42 5 (.slice A' N c') N (tasksV ts) ∧ Below w'.heap.size w' w'')
    (S : List Nat) (hS : S.length = N) (hf : ∀ k, k < N → ∃ b, b < N ∧ b ∉ S.take k ∧ S[k]? = some b)
    (hre : ∀ w' A' c', Rd w' 5 A' N (tasksV ts) → N ≤ c' → Calls Try.prog 17 #[.slice A' N c'] w' fun e w'' => ∃ A3 c3, e = .returned (.tuple #[.slice A3 N c3, faultV (0, 0)]) ∧ w''.ownsRow w'.heap.size 3 1 (.slice A3 N c3) N (ints (up S)) ∧ Below w'.heap.size w' w'')
    (hwi : ∀ w' A' c', Rd w' 5 A' N (tasksV (permF ts S)) → N ≤ c' → Calls Try.prog 18 #[.slice A' N c'] w' fun e w'' => e = .returned (.bool true) ∧ Below w'.heap.size w' w'') :
    Calls Try.prog 7 #[.slice A n c] w fun e w' => e = .returned (.bool true) ∧ Below w.heap.size w w' := by
  obtain ⟨j0, hyi, hy0, hy1, hy2⟩ := info_parts task_info
  have HDU := Lib.hid hdu
  have HRE := Lib.hid hre
  have HWI := Lib.hid hwi
  have HF := Lib.hid hf
  have HS := Lib.hid hS
  clear hdu hre hwi hf hS
  go_enter Try.func7, Try.ntmps7
  go_wp2_with fail
  refine (known_any _).mono ?_
  rintro e w1 ⟨rfl, hb⟩
  have M1 := Lib.hid ((Mem.start w).below hb)
  clear hb
  go_wp2_with fail
  refine (HDU.out _ M1.out.bel).mono ?_
  rintro e w2 ⟨A2, c2, rfl, ho, hb⟩
  have M2 := Lib.hid (M1.out.made hb ho)
  clear ho hb M1
  have hNc := (M2.out.shapeO 0 rfl).1
  go_wp2_with fail
  refine (HRE.out _ A2 c2 (M2.out.rdO 0 rfl) hNc).mono ?_
  rintro e w3 ⟨A3, c3, rfl, ho, hb⟩
  have M3 := Lib.hid ((M2.out.made hb ho).alloc 26 #[.int .i64 0, .int .i64 0, .int .i64 0])
  clear ho hb M2
  have k0 := M3.out.cellK 0 rfl
  have hmk := make_bools N (by omega)
  go_upto_region 12 with fail
  have M5 : Hid (∃ Ks, Mem w ((w3.alloc (Obj.cells #[Value.int IntKind.i64 0, Value.int IntKind.i64 0, Value.int IntKind.i64 0] 26)).alloc (.cells (falses N) 4)) Ks
      [⟨42, 5, none, 0, 0, tasksV (permF ts (S.take 0))⟩, ⟨4, 1, some ⟨w3.heap.size + 1, 0, none⟩, N, N, usedV N (S.take 0)⟩, ⟨3, 1, A3, N, c3, ints (up S)⟩, ⟨42, 5, A2, N, c2, tasksV ts⟩]) := by
    have h := M3.out.made (below_alloc (.cells (falses N) 4)) (bools_own N (by omega) _)
    rw [← used_none] at h
    simp only [World.size_alloc] at h
    exact ⟨_, h.nilO _ _⟩
  clear k0 hmk M3
  generalize World.alloc (World.alloc _ _) _ = w5 at M5 ⊢
  obtain ⟨g, hg⟩ : ∃ g, w3.heap.size = g := ⟨_, rfl⟩
  rw [hg] at M5 ⊢
  clear hg
  go_wp2
  go_loopw [7, 9] (fun v7 v9 wr => ∃ k : Nat, k ≤ N ∧ v9 = .int .i64 k ∧ ∃ B d, v7 = .slice B k d ∧ ∃ Ks, Hid (Mem w wr Ks
      [⟨42, 5, B, k, d, tasksV (permF ts (S.take k))⟩, ⟨4, 1, some ⟨g + 1, 0, none⟩, N, N, usedV N (S.take k)⟩, ⟨3, 1, A3, N, c3, ints (up S)⟩, ⟨42, 5, A2, N, c2, tasksV ts⟩])) (fun _ i _ => N - (intOf i).toNat)
  case atStart =>
    obtain ⟨Ks, h⟩ := M5.out
    exact ⟨0, Nat.zero_le _, rfl, none, 0, rfl, Ks, h⟩
  case round =>
    clear M5
    obtain ⟨k, hk, rfl, B, d, rfl, Ks, HM⟩ := hrel
    by_cases hlt : k < N
    · obtain ⟨q, hq, hqn, hqs⟩ := HF.out k hlt
      obtain ⟨go, rfl, _, _⟩ := (HM.out.upO 2 rfl).head (by omega)
      have co : wr.cell? ⟨go, k, none⟩ = some (.int .i64 q) := by
        rw [(HM.out.rowO 2 rfl).cellAt k (by omega)]
        simp [ints, up, hqs]
      have cu : wr.cell? ⟨g + 1, q, none⟩ = some (.bool false) := by
        rw [(HM.out.rowO 1 rfl).cellAt q (by omega), used_at hq, decide_eq_false hqn]
      have fu := (HM.out.rowO 1 rfl).frozenAt
      have hk0 : (0 : Int) ≤ (k : Int) := by omega
      have hk1 : (k : Int) < (N : Int) := by omega
      have hq0 : (0 : Int) ≤ (q : Int) := by omega
      have hq1 : (q : Int) < (N : Int) := by omega
      have hset : (usedV N (S.take k)).set q (.bool true) = usedV N (S.take (k + 1)) := by
        have h := List.getElem?_eq_some_iff.1 hqs
        rw [used_set, List.take_succ_eq_append_getElem h.1, h.2]
      have M6 := Lib.hid (((HM.out.upO 1 rfl).put (j := q) (.bool true)).upO 1 rfl)
      rw [hset] at M6
      clear hset
      go_upto_region 18 with fail
      generalize World.setCell _ _ _ = w6 at M6 ⊢
      clear HM co cu fu
      obtain ⟨bt, ot, t, rfl, ht, hbt, t0, t1, t2, t3, t4⟩ := task_at (M6.out.rdO 3 rfl) hq
      have HP := Lib.hid (perm_take_next hqs ht)
      have co : w6.cell? ⟨go, k, none⟩ = some (.int .i64 q) := by
        rw [(M6.out.rowO 2 rfl).cellAt k (by omega)]
        simp [ints, up, hqs]
      have hown := Lib.hid (M6.out.rowO 0 rfl)
      have hz := M6.out.base
      clear ht hbt hqs hqn
      go_wp2_with (at_builtin; refine wpList_append_rd _ rfl (.tmp 79) (.tmp 87) 22 rfl w.heap.size 42 j0 _ 5 48 Try.underlying22 hyi hy0 hy1 hy2 rfl (by omega) _ k (tasksV (permF ts (S.take k))) rfl (hown.out.alloc _) _ 1 1 t.cs rfl (rd_taskP _ _) ?_ ?_ ?_ ?_ ?_)
      · intro u hu
        simp [TD.cs] at hu
        rcases hu with rfl | rfl | rfl | rfl | rfl <;> rfl
      · unfold maxLen; omega
      · omega
      · simp; omega
      intro v' w7 ho7 hg7 hat7
      obtain ⟨B', d', rfl, _⟩ := own_shape ho7
      rw [show tasksV (permF ts (S.take k)) ++ t.cs = tasksV (permF ts (S.take (k + 1))) from by rw [HP.out]; simp [tasksV]] at ho7
      have M7 := Lib.hid (M6.out.appd hg7 ho7 hat7)
      clear ho7 hg7 hat7 hown M6 co t0 t1 t2 t3 t4
      go_wp2
      go_roundw
      case rel => exact ⟨k + 1, by omega, by go_num, B', d', rfl, _, M7⟩
      case measure => simp [intOf]; omega
    · obtain rfl : k = N := by omega
      have hr := HM.out.rdO 0 rfl
      rw [List.take_of_length_le (by rw [HS.out]; omega)] at hr
      have HR := Lib.hid hr
      have hkd := (HM.out.shapeO 0 rfl).1
      have hb := Lib.hid HM.out.bel
      clear hr HM
      go_wp2_with fail
      refine (HWI.out _ B d HR.out hkd).mono ?_
      rintro e w6 ⟨rfl, hb6⟩
      have hb' := Lib.hid (hb.out.trans (hb6.mono hb.out.size))
      go_wp2
      go_ret
      exact ⟨rfl, hb'.out⟩

theorem Best_any (A : Option Addr) (n c : Nat) (l : List DU) (w : World) (hr : Rd w 4 A n (duV l)) (hd : ∀ d ∈ l, d.ok) :
    Calls Try.prog 7 #[.slice A n c] w fun e w' => e = .returned (.bool true) ∧ Below w.heap.size w w' := by
  have hok := duties_ok l 4 true
  have hlen := duties_len l 4 true
  generalize hts : dutiesF l 4 true = ts at hok hlen
  have hdu := fun w' (hb : Below w.heap.size w w') => duties4 A n c l w' (hr.below hb) hd hts rfl
  clear hts hr hd
  rcases order_two hok (by omega) (by omega) with ⟨hw, hO⟩ | ⟨hw, s, hO⟩
  · have hol : ((ordTo ts ts.length).map (fun k : Nat => (k : Int))).length = ts.length := by rw [List.length_map, ord_len]
    refine Best_ok A n c w ts ts.length (by omega) hdu (ordTo ts ts.length) (ord_len _ _) (fun k hk => ?_) (fun w' A' c' h1 h2 => ?_) (fun w' A' c' h1 h2 => ?_)
    · obtain ⟨b, _, h1, h2, h3⟩ := best_ord ts hk
      exact ⟨b, h1, h2, h3⟩
    · have h := Order_any A' ts.length c' ts w' h1 h2
      rw [hO] at h
      refine h.mono fun e w'' hf => ?_
      obtain ⟨A3, c3, e, ho, hb⟩ := hf
      simp only [hol] at e ho
      exact ⟨A3, c3, e, ho, hb⟩
    · have h := will_any A' ts.length c' _ w' h1 h2
      rw [hw] at h
      exact h
  · refine Best_slow A n c w ts ts.length s hdu (fun w' A' c' h1 h2 => ?_) (fun w' A' c' h1 h2 h3 => ?_)
    · have h := Order_any A' ts.length c' ts w' h1 h2
      rw [hO] at h
      refine h.mono fun e w'' hf => ?_
      obtain ⟨A3, c3, e, ho, hb⟩ := hf
      exact ⟨A3, c3, e, ho, hb⟩
    · exact shuffled_any ts.length A' none ts.length c' 0 0 ts [] w' rfl h1 h2 h3 (Rd.nil _ _ _) (Nat.le_refl _) (by omega) (best_none hok (by omega) (by omega) hw)
theorem walk_Best (H : Type) (enc : TypeId × Value → H) (w : World) (A : Option Addr) (n c : Nat) (ho : O.Op enc Try.prog w 38 [.slice A n c]) :
    Calls Try.prog 7 #[.slice A n c] w fun e w' => e = .returned (.bool true) ∧ Below w.heap.size w w' := by
  obtain ⟨l, hr, hd⟩ := duties_in ho
  exact Best_any A n c l w hr hd
end Go.Proofs.Ythnpeekeoaiaoaa.Task
