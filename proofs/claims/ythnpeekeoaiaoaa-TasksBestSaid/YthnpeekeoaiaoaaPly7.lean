/-
  Who runs when, by tasks. Conditions: the list reads.
-/
import Derived.Test.YthnpeekeoaiaoaaPly2
import Derived.Test.YthnpeekeoaiaoaaPly4
import Derived.Test.YthnpeekeoaiaoaaPly6
import Derived.Test.YthnpeekeoaiaoaaHeld
import Derived.Test.YthnpeekeoaiaoaaPly8
import Derived.Test.YthnpeekeoaiaoaaRng
import Derived.Deep.RegionHeld3
namespace Go.Proofs.Ythnpeekeoaiaoaa.Task
open Go.RowKit Go.Shelf Go.Proofs.Ythnpeekeoaiaoaa.W Go.Proofs.Ythnpeekeoaiaoaa.Ints

attribute [local go_sem] Oper.semAt_some
attribute [local go_sem] wide_askedP wide_fnP
theorem line_info : (Try.prog.info? 56).map (fun i => (i.zero, i.size, i.bytes)) = some (some (.agg #[.int .i64 0, .int .i64 0, .int .i64 0]), 3, 24) := by kernel_rfl

theorem rd_blk {w : World} {g : Nat} {ty : TypeId} {cs : Array Value} (h : Blk w g ty cs) : Rd w cs.size (some ⟨g, 0, none⟩) 1 cs.toList := by
  refine ⟨by simp, fun _ => ⟨_, _, rfl, fun j x hx => ?_⟩⟩
  rw [Nat.zero_add, h.cell]
  simpa using hx
theorem take_at {α : Type} {l : List α} {k : Nat} {x : α} (h : l[k]? = some x) : l.take (k + 1) = l.take k ++ [x] := by
  obtain ⟨h1, h2⟩ := List.getElem?_eq_some_iff.1 h
  rw [List.take_succ_eq_append_getElem h1, h2]
def newL (l : List TD) : List LD := l.map fun t => ⟨0, 0, t.cost⟩
theorem start_ls (ts : List TD) (ha : ts.all TD.okB = true) : newL ts = (stdB ts (relR ts.length []) 0).ls := by
  apply List.ext_getElem?
  intro i
  by_cases hi : i < ts.length
  · obtain ⟨c1, _⟩ := cost_pos ha i
    simp only [stdB]
    rw [line_at hi]
    have e : costF ts i = ts[i].cost := at_cost (List.getElem?_eq_getElem hi)
    have e2 : (relR ts.length [])[i]?.getD 0 = 0 := by rw [relR_at hi]; rfl
    simp [newL, lineAt, playF, hi, e, e2]
  · rw [List.getElem?_eq_none (by simp [newL]; omega), List.getElem?_eq_none (by simp [stdB, line_len]; omega)]
theorem start_ok (ts : List TD) (ha : ts.all TD.okB = true) : (stdB ts (relR ts.length []) 0).ok ts (20001 * 0) := by
  refine ⟨line_len _ _ _, Nat.zero_le _, fun i l hl => ?_⟩
  rw [← start_ls ts ha] at hl
  simp only [newL, List.getElem?_map, Option.map_eq_some_iff] at hl
  obtain ⟨t, ht, rfl⟩ := hl
  obtain ⟨c1, _⟩ := cost_pos ha i
  rw [at_cost ht] at c1 ⊢
  simp
  omega
theorem ld_first {ls : List LD} {k : Nat} {l : LD} {v : Int} (h : ls[k]? = some l) : ldV (ls.set k ⟨v, l.job, l.left⟩) = (ldV ls).set (k * 3) (.int .i64 v) := by
  have hk := (List.getElem?_eq_some_iff.1 h).1
  have h1 : (ldV ls)[k * 3 + 1]? = some (.int .i64 l.job) := flat_at LD.len ls k 1 l h (by omega)
  have h2 : (ldV ls)[k * 3 + 2]? = some (.int .i64 l.left) := flat_at LD.len ls k 2 l h (by omega)
  rw [ld_set _ _ _ _ _ hk]
  have e1 : ((ldV ls).set (k * 3) (.int .i64 v))[k * 3 + 1]? = some (.int .i64 l.job) := by rw [List.getElem?_set_ne (by omega)]; exact h1
  have e2 : ((ldV ls).set (k * 3) (.int .i64 v))[k * 3 + 2]? = some (.int .i64 l.left) := by rw [List.getElem?_set_ne (by omega)]; exact h2
  rw [set_same e1, set_same e2]
def SRg (gp g gt : Nat) (l1 l2 c : Value) (L : Array Bool) (w : World) : Prop :=
  w.cell? ⟨gp, 0, none⟩ = some (.pointer (some ⟨g, 0, none⟩)) ∧ w.cell? ⟨gt, 3, none⟩ = some c ∧ (L.getD 10 true = false → w.cell? ⟨g, 1, none⟩ = some l1) ∧ (L.getD 18 true = false → w.cell? ⟨g, 2, none⟩ = some l2)
theorem SRg_x {gp g gt i : Nat} {l1 l2 c : Value} {L : Array Bool} {w : World} (h1 : i ≠ 10) (h2 : i ≠ 18) : SRg gp g gt l1 l2 c (L.setIfInBounds i true) w ↔ SRg gp g gt l1 l2 c L w := by
  unfold SRg
  rw [getD_set_ne true h1, getD_set_ne true h2]
theorem SRg_y {gp g gt : Nat} {l1 l2 c : Value} {L L' : Array Bool} {w : World} (h : SRg gp g gt l1 l2 c L w) (h1 : L.getD 10 true = false := by rfl) (h2 : L.getD 18 true = false := by rfl) : SRg gp g gt l1 l2 c L' w := ⟨h.1, h.2.1, fun _ => h.2.2.1 h1, fun _ => h.2.2.2 h2⟩

set_option maxRecDepth 100000 in
set_option maxHeartbeats 6400000 in
theorem Play_ok (A : Option Addr) (n c : Nat) (ts : List TD) (U : Nat) (w : World) (hr : Rd w 5 A n (tasksV ts)) (hnc : n ≤ c) (hf : (faultF ts).1 = 0) (hU : U ≤ 20000) :
    Calls Try.prog 12 #[.slice A n c, .int .i64 (U : Int)] w fun e w' => FreshP w w' e (playedF ts U) := by
  obtain ⟨i0, hi0, hz0, hz1, hz2⟩ := info_parts int_info
  obtain ⟨j0, hyi, hy0, hy1, hy2⟩ := info_parts line_info
  have hl := Rd.rec_len TD.len (by omega) hr
  have HR := Lib.hid hr
  clear hr
  obtain ⟨n1, n16, hok, hff⟩ := fault_ok hf
  have HO : Hid (playedF ts U = ((playF ts U).2, (0, 0))) := by rw [Hid, playedF, if_pos hf, if_neg (by omega)]; rfl
  have HF := Lib.hid hff
  have HK := Lib.hid hok
  have HL := Lib.hid hl
  have h16 : n ≤ 16 := by omega
  have h1 : 1 ≤ n := by omega
  generalize playedF ts U = T at HO ⊢
  clear hff hok hl hf n1 n16
  refine (callsIn_wide (n := 5)).1 ?_
  refine callsIn_of_wp_marks Try.func12 rfl trivial ?_ rfl
  simp only [Try.ntmps12, List.size_toArray, List.length_cons, List.length_nil, Nat.reduceAdd, Nat.reduceSub, Array.replicate_succ, Array.replicate_zero, List.push_toArray, List.append_toArray, List.nil_append, List.cons_append]
  refine wpIn_wide.2 ?_
  go_wp2_with fail
  refine (fault_any A n c ts _ (HR.out.alloc _)).mono ?_
  rintro e w1 ⟨rfl, hb⟩
  rw [HF.out]
  have M1 := Lib.hid ((((Mem.start w).alloc 26 #[.int .i64 0, .int .i64 0, .int .i64 0]).below hb).alloc 26 #[.int .i64 0, .int .i64 0, .int .i64 0])
  have c1 := M1.out.cellK 0 rfl
  have hz := (M1.out.ltK 1 rfl).2
  simp only [World.size_alloc] at hz
  clear hb
  go_upto_region 7 with fail
  have M2 : Hid (Mem w (((w1.alloc (.cells #[.int .i64 0, .int .i64 0, .int .i64 0] 26)).alloc (.cells #[.int .i64 0, .slice none 0 0, .slice none 0 0, .slice none 0 0] 54)).alloc (.cells #[.pointer (some ⟨w1.heap.size + 1, 0, none⟩)] 51))
      [⟨w1.heap.size + 2, 51, #[.pointer (some ⟨w1.heap.size + 1, 0, none⟩)]⟩, ⟨w1.heap.size + 1, 54, boardV 0 none none none 0 0 0 0 0⟩, ⟨w1.heap.size, 26, #[.int .i64 0, .int .i64 0, .int .i64 0]⟩, ⟨w.heap.size, 26, #[.int .i64 0, .int .i64 0, .int .i64 0]⟩]
      [⟨56, 3, none, 0, 0, ldV (newL (ts.take 0))⟩, ⟨3, 1, none, 0, 0, ints ((ts.take 0).map TD.cost)⟩, ⟨36, 4, none, 0, 0, sdV []⟩]) :=
    by
      have h := ((((M1.out.alloc 54 (boardV 0 none none none 0 0 0 0 0)).alloc 51 #[.pointer (some ⟨w1.heap.size + 1, 0, none⟩)]).nilO 36 4).nilO 3 1).nilO 56 3
      simp only [World.size_alloc] at h
      exact h
  clear M1 c1
  generalize w1.heap.size = g0 at *
  rw [show g0 + 1 + 1 = g0 + 2 from rfl]
  generalize World.alloc (World.alloc _ _) _ = W at M2 ⊢
  go_wp2
  go_loopw [9, 29] (fun _ i wr => ∃ k : Nat, k ≤ n ∧ i = .int .i64 k ∧ ∃ L cL C cC, Hid (Mem w wr [⟨g0 + 2, 51, #[.pointer (some ⟨g0 + 1, 0, none⟩)]⟩, ⟨g0 + 1, 54, boardV 0 L C none k cL cC 0 0⟩, ⟨g0, 26, #[.int .i64 0, .int .i64 0, .int .i64 0]⟩, ⟨w.heap.size, 26, #[.int .i64 0, .int .i64 0, .int .i64 0]⟩]
      [⟨56, 3, L, k, cL, ldV (newL (ts.take k))⟩, ⟨3, 1, C, k, cC, ints ((ts.take k).map TD.cost)⟩, ⟨36, 4, none, 0, 0, sdV []⟩])) (fun _ i _ => n - (intOf i).toNat)
  case atStart => exact ⟨0, Nat.zero_le _, rfl, none, 0, none, 0, M2⟩
  case round =>
    clear M2
    obtain ⟨k, hk, rfl, L, cL, C, cC, HM⟩ := hrel
    by_cases hlt : k < n
    · obtain ⟨b, o, t, rfl, ht, hbl, c0, c1, c2, c3, c4⟩ := task_at (HR.out.below HM.out.bel) hlt
      have HT := Lib.hid ht
      have M3 := Lib.hid (HM.out.alloc 42 #[.string t.name, .int .i64 t.per, .int .i64 t.off, .int .i64 t.cost, .int .i64 t.dead])
      have hk0 : (0 : Int) ≤ (k : Int) := by omega
      have hkn : (k : Int) < (n : Int) := by omega
      have hnl : Hid (ldV (newL (ts.take k)) ++ [.int .i64 0, .int .i64 0, .int .i64 t.cost] = ldV (newL (ts.take (k + 1)))) := by
        rw [Hid, take_at ht]; simp [newL, ldV, LD.cs]
      have hnc : Hid (ints ((ts.take k).map TD.cost) ++ [.int .i64 t.cost] = ints ((ts.take (k + 1)).map TD.cost)) := by
        rw [Hid, take_at ht]; simp [ints]
      clear ht
      go_upto_region 10 with fail
      clear hbl c0 c1 c2 c3 c4
      generalize hgt : wr.heap.size = gt at M3 ⊢
      generalize World.alloc wr _ = w2 at M3 ⊢
      have M3 := Lib.hid M3.out.drew
      have s0 : SRg (g0 + 2) (g0 + 1) gt (.slice L k cL) (.slice C k cC) (.int .i64 t.cost) (Array.replicate 25 false) w2.drew := ⟨M3.out.cellK 1 rfl 0, M3.out.cellK 0 rfl 3, fun _ => M3.out.cellK 2 rfl 1, fun _ => M3.out.cellK 2 rfl 2⟩
      refine wp_region_noPanic ?_
      refine wp_region_L (S := SRg (g0 + 2) (g0 + 1) gt (.slice L k cL) (.slice C k cC) (.int .i64 t.cost)) (by kernel_rfl) ?_
      refine wpAnyL_take (i := 0) (m := 19) (SI := (fun w => w.cell? ⟨g0 + 2, 0, none⟩ = some (.pointer (some ⟨g0 + 1, 0, none⟩)))) (v := ?_) rfl (by kernel_rfl) (by kernel_rfl) (by kernel_rfl) (by kernel_rfl) (by rfl) (by decide) (fun _ _ => SRg_x (by decide) (by decide)) (fun _ _ _ h => h.1) (fun _ _ _ h => h) (Or.inl ⟨by rfl, ?_⟩) (SRg_y s0) ?_
      rotate_left
      · intro w hSw
        (try dsimp only at hSw)
        go_simp
        try with_reducible rfl
      simp only [Act.put, List.setIfInBounds_toArray]
      refine wpAnyL_take (i := 1) (m := 22) (SI := (fun w => w.cell? ⟨g0 + 2, 0, none⟩ = some (.pointer (some ⟨g0 + 1, 0, none⟩)))) (v := ?_) rfl (by kernel_rfl) (by kernel_rfl) (by kernel_rfl) (by kernel_rfl) (by rfl) (by decide) (fun _ _ => SRg_x (by decide) (by decide)) (fun _ _ _ h => h.1) (fun _ _ _ h => h) (Or.inl ⟨by rfl, ?_⟩) (SRg_y s0) ?_
      rotate_left
      · intro w hSw
        (try dsimp only at hSw)
        go_simp
        try with_reducible rfl
      simp only [Act.put]
      refine wpAnyL_take (i := 2) (m := 3) (SI := (fun w => w.cell? ⟨g0 + 2, 0, none⟩ = some (.pointer (some ⟨g0 + 1, 0, none⟩)))) (v := ?_) rfl (by kernel_rfl) (by kernel_rfl) (by kernel_rfl) (by kernel_rfl) (by rfl) (by decide) (fun _ _ => SRg_x (by decide) (by decide)) (fun _ _ _ h => h.1) (fun _ _ _ h => h) (Or.inl ⟨by rfl, ?_⟩) (SRg_y s0) ?_
      rotate_left
      · intro w hSw
        (try dsimp only at hSw)
        go_simp
        try with_reducible rfl
      simp only [Act.put]
      refine wpAnyL_take (i := 3) (m := 4) (SI := (fun _ => True)) (v := ?_) rfl (by kernel_rfl) (by kernel_rfl) (by kernel_rfl) (by kernel_rfl) (by rfl) (by decide) (fun _ _ => SRg_x (by decide) (by decide)) (fun _ _ _ _ => trivial) (fun _ _ _ h => h) (Or.inl ⟨by rfl, ?_⟩) (SRg_y s0) ?_
      rotate_left
      · intro w hSw
        (try dsimp only at hSw)
        go_simp
        try with_reducible rfl
      simp only [Act.put]
      refine wpAnyL_take (i := 4) (m := 5) (SI := (fun _ => True)) (v := ?_) rfl (by kernel_rfl) (by kernel_rfl) (by kernel_rfl) (by kernel_rfl) (by rfl) (by decide) (fun _ _ => SRg_x (by decide) (by decide)) (fun _ _ _ _ => trivial) (fun _ _ _ h => h) (Or.inl ⟨by rfl, ?_⟩) (SRg_y s0) ?_
      rotate_left
      · intro w hSw
        (try dsimp only at hSw)
        go_simp
        try with_reducible rfl
      simp only [Act.put]
      refine wpAnyL_take (i := 5) (m := 10) (SI := (fun w => w.cell? ⟨g0 + 1, 1, none⟩ = some (.slice L k cL))) (v := ?_) rfl (by kernel_rfl) (by kernel_rfl) (by kernel_rfl) (by kernel_rfl) (by rfl) (by decide) (fun _ _ => SRg_x (by decide) (by decide)) (fun _ _ h0 h => h.2.2.1 h0) (fun _ _ _ h => h) (Or.inl ⟨by rfl, ?_⟩) (SRg_y s0) ?_
      rotate_left
      · intro w hSw
        (try dsimp only at hSw)
        go_simp
        try with_reducible rfl
      simp only [Act.put]
      refine wpAnyL_take (i := 6) (m := 7) (SI := (fun _ => True)) (v := ?_) rfl (by kernel_rfl) (by kernel_rfl) (by kernel_rfl) (by kernel_rfl) (by rfl) (by decide) (fun _ _ => SRg_x (by decide) (by decide)) (fun _ _ _ _ => trivial) (fun _ _ _ h => h) (Or.inl ⟨by rfl, ?_⟩) (SRg_y s0) ?_
      rotate_left
      · intro w hSw
        (try dsimp only at hSw)
        go_simp
        try with_reducible rfl
      simp only [Act.put]
      refine wpAnyL_take (i := 7) (m := 8) (SI := (fun w => w.cell? ⟨gt, 3, none⟩ = some (.int .i64 t.cost))) (v := ?_) rfl (by kernel_rfl) (by kernel_rfl) (by kernel_rfl) (by kernel_rfl) (by rfl) (by decide) (fun _ _ => SRg_x (by decide) (by decide)) (fun _ _ _ h => h.2.1) (fun _ _ _ h => h) (Or.inl ⟨by rfl, ?_⟩) (SRg_y s0) ?_
      rotate_left
      · intro w hSw
        (try dsimp only at hSw)
        go_simp
        try with_reducible rfl
      simp only [Act.put]
      refine wpAnyL_take (i := 8) (m := 9) (SI := (fun _ => True)) (v := ?_) rfl (by kernel_rfl) (by kernel_rfl) (by kernel_rfl) (by kernel_rfl) (by rfl) (by decide) (fun _ _ => SRg_x (by decide) (by decide)) (fun _ _ _ _ => trivial) (fun _ _ _ h => h) (Or.inl ⟨by rfl, ?_⟩) (SRg_y s0) ?_
      rotate_left
      · intro w hSw
        (try dsimp only at hSw)
        go_simp
        try with_reducible rfl
      simp only [Act.put]
      refine wpAnyL_take (i := 11) (m := 12) (SI := (fun w => w.cell? ⟨g0 + 2, 0, none⟩ = some (.pointer (some ⟨g0 + 1, 0, none⟩)))) (v := ?_) rfl (by kernel_rfl) (by kernel_rfl) (by kernel_rfl) (by kernel_rfl) (by rfl) (by decide) (fun _ _ => SRg_x (by decide) (by decide)) (fun _ _ _ h => h.1) (fun _ _ _ h => h) (Or.inl ⟨by rfl, ?_⟩) (SRg_y s0) ?_
      rotate_left
      · intro w hSw
        (try dsimp only at hSw)
        go_simp
        try with_reducible rfl
      simp only [Act.put]
      refine wpAnyL_take (i := 12) (m := 13) (SI := (fun _ => True)) (v := ?_) rfl (by kernel_rfl) (by kernel_rfl) (by kernel_rfl) (by kernel_rfl) (by rfl) (by decide) (fun _ _ => SRg_x (by decide) (by decide)) (fun _ _ _ _ => trivial) (fun _ _ _ h => h) (Or.inl ⟨by rfl, ?_⟩) (SRg_y s0) ?_
      rotate_left
      · intro w hSw
        (try dsimp only at hSw)
        go_simp
        try with_reducible rfl
      simp only [Act.put]
      refine wpAnyL_take (i := 13) (m := 14) (SI := (fun _ => True)) (v := ?_) rfl (by kernel_rfl) (by kernel_rfl) (by kernel_rfl) (by kernel_rfl) (by rfl) (by decide) (fun _ _ => SRg_x (by decide) (by decide)) (fun _ _ _ _ => trivial) (fun _ _ _ h => h) (Or.inl ⟨by rfl, ?_⟩) (SRg_y s0) ?_
      rotate_left
      · intro w hSw
        (try dsimp only at hSw)
        go_simp
        try with_reducible rfl
      simp only [Act.put]
      refine wpAnyL_take (i := 14) (m := 18) (SI := (fun w => w.cell? ⟨g0 + 1, 2, none⟩ = some (.slice C k cC))) (v := ?_) rfl (by kernel_rfl) (by kernel_rfl) (by kernel_rfl) (by kernel_rfl) (by rfl) (by decide) (fun _ _ => SRg_x (by decide) (by decide)) (fun _ _ h0 h => h.2.2.2 h0) (fun _ _ _ h => h) (Or.inl ⟨by rfl, ?_⟩) (SRg_y s0) ?_
      rotate_left
      · intro w hSw
        (try dsimp only at hSw)
        go_simp
        try with_reducible rfl
      simp only [Act.put]
      refine wpAnyL_take (i := 15) (m := 16) (SI := (fun _ => True)) (v := ?_) rfl (by kernel_rfl) (by kernel_rfl) (by kernel_rfl) (by kernel_rfl) (by rfl) (by decide) (fun _ _ => SRg_x (by decide) (by decide)) (fun _ _ _ _ => trivial) (fun _ _ _ h => h) (Or.inl ⟨by rfl, ?_⟩) (SRg_y s0) ?_
      rotate_left
      · intro w hSw
        (try dsimp only at hSw)
        go_simp
        try with_reducible rfl
      simp only [Act.put]
      refine wpAnyL_take (i := 16) (m := 17) (SI := (fun w => w.cell? ⟨gt, 3, none⟩ = some (.int .i64 t.cost))) (v := ?_) rfl (by kernel_rfl) (by kernel_rfl) (by kernel_rfl) (by kernel_rfl) (by rfl) (by decide) (fun _ _ => SRg_x (by decide) (by decide)) (fun _ _ _ h => h.2.1) (fun _ _ _ h => h) (Or.inl ⟨by rfl, ?_⟩) (SRg_y s0) ?_
      rotate_left
      · intro w hSw
        (try dsimp only at hSw)
        go_simp
        try with_reducible rfl
      simp only [Act.put]
      refine wpAnyL_ready (rs := [9, 17]) (by kernel_rfl) (by simp) ?_
      refine AllL.cons rfl (by rfl) (fun K hK => ?_) (AllL.cons rfl (by rfl) (fun K hK => ?_) AllL.nil)
      · have HKK := Lib.hid hK
        clear hK
        go_simp
        have N1 := Lib.hid ((M3.out).alloc 56 #[.int .i64 0, .int .i64 0, .int .i64 t.cost])
        try simp only [World.size_alloc] at N1
        refine HKK.out _ _ ⟨(N1.out).cellK 2 rfl 0, (N1.out).cellK 1 rfl 3, fun _ => (N1.out).cellK 3 rfl 1, fun _ => (N1.out).cellK 3 rfl 2⟩ ?_
        clear HKK K
        try simp only [Act.put, List.setIfInBounds_toArray, List.set_cons_zero, List.set_cons_succ]
        refine wpAnyL_ready (rs := [10, 17]) (by kernel_rfl) (by simp) ?_
        refine AllL.cons rfl (by rfl) (fun K hK => ?_) (AllL.cons rfl (by rfl) (fun K hK => ?_) AllL.nil)
        · have HKK := Lib.hid hK
          clear hK
          refine wp_append_sl _ (.tmp 38) (.tmp 42) 52 rfl w.heap.size 56 j0 _ 3 24 Try.underlying52 hyi hy0 hy1 hy2 rfl (by omega) (.slice L k cL) k (ldV (newL (ts.take k))) rfl ((N1.out).rowO 0 rfl) _ 1 1 [.int .i64 0, .int .i64 0, .int .i64 t.cost] rfl (rd_blk ((N1.out).blkK 0 rfl)) (by simp [Value.oneCell']) (by unfold maxLen; omega) (by omega) (N1.out).base (k + 1) rfl ?_
          intro L1 cL1 wN2 hoN2 hgN2 hatN2
          rw [hnl.out] at hoN2
          have N2 := Lib.hid ((N1.out).grow hgN2 hoN2 hatN2)
          refine HKK.out _ _ ⟨(N2.out).cellK 2 rfl 0, (N2.out).cellK 1 rfl 3, fun _ => (N2.out).cellK 3 rfl 1, fun _ => (N2.out).cellK 3 rfl 2⟩ ?_
          clear HKK K
          try simp only [Act.put, List.setIfInBounds_toArray]
          refine wpAnyL_ready (rs := [17]) (by kernel_rfl) (by simp) ?_
          refine AllL.cons rfl (by rfl) (fun K hK => ?_) AllL.nil
          have HKK := Lib.hid hK
          clear hK
          go_simp
          have N3 := Lib.hid ((N2.out).alloc 3 #[.int .i64 t.cost])
          try simp only [World.size_alloc] at N3
          refine HKK.out _ _ ⟨(N3.out).cellK 3 rfl 0, (N3.out).cellK 2 rfl 3, fun _ => (N3.out).cellK 4 rfl 1, fun _ => (N3.out).cellK 4 rfl 2⟩ ?_
          clear HKK K
          try simp only [Act.put, List.setIfInBounds_toArray, List.set_cons_zero, List.set_cons_succ]
          refine wpAnyL_ready (rs := [18]) (by kernel_rfl) (by simp) ?_
          refine AllL.cons rfl (by rfl) (fun K hK => ?_) AllL.nil
          have HKK := Lib.hid hK
          clear hK
          refine wp_append_sl _ (.tmp 47) (.tmp 50) 23 rfl w.heap.size 3 i0 _ 1 8 Try.underlying23 hi0 hz0 hz1 hz2 rfl (by omega) (.slice C k cC) k (ints ((ts.take k).map TD.cost)) rfl ((N3.out).rowO 1 rfl) _ 1 1 [.int .i64 t.cost] rfl (rd_blk ((N3.out).blkK 0 rfl)) (by simp [Value.oneCell']) (by unfold maxLen; omega) (by omega) (N3.out).base (k + 1) rfl ?_
          intro C1 cC1 wN4 hoN4 hgN4 hatN4
          rw [hnc.out] at hoN4
          have N4 := Lib.hid (((N3.out).upO 1 rfl).grow hgN4 hoN4 hatN4)
          refine HKK.out _ _ ⟨(N4.out).cellK 3 rfl 0, (N4.out).cellK 2 rfl 3, fun _ => (N4.out).cellK 4 rfl 1, fun _ => (N4.out).cellK 4 rfl 2⟩ ?_
          clear HKK K
          try simp only [Act.put, List.setIfInBounds_toArray]
          have cg := (N4.out).cellK 4 rfl
          have fg := (N4.out).frozenK 4 rfl
          have SS : ∀ L', L'.getD 10 true = true → L'.getD 18 true = true → SRg (g0 + 2) (g0 + 1) gt (.slice L k cL) (.slice C k cC) (.int .i64 t.cost) L' wN4 := fun L' h1 h2 => ⟨(N4.out).cellK 3 rfl 0, (N4.out).cellK 2 rfl 3, (fun h => by rw [h1] at h; cases h), (fun h => by rw [h2] at h; cases h)⟩
          refine wpAnyL_take (i := 19) (m := 20) (SI := (fun _ => True)) (v := ?_) rfl (by kernel_rfl) (by kernel_rfl) (by kernel_rfl) (by kernel_rfl) (by rfl) (by decide) (fun _ _ => SRg_x (by decide) (by decide)) (fun _ _ _ _ => trivial) (fun _ _ _ h => h) (Or.inl ⟨by rfl, ?_⟩) (SS _ (by rfl) (by rfl)) ?_
          rotate_left
          · intro w hSw
            (try dsimp only at hSw)
            go_simp
            try with_reducible rfl
          try simp only [Act.put]
          refine wpAnyL_take (i := 20) (m := 21) (SI := (fun _ => True)) (v := ?_) rfl (by kernel_rfl) (by kernel_rfl) (by kernel_rfl) (by kernel_rfl) (by rfl) (by decide) (fun _ _ => SRg_x (by decide) (by decide)) (fun _ _ _ _ => trivial) (fun _ _ _ h => h) (Or.inl ⟨by rfl, ?_⟩) (SS _ (by rfl) (by rfl)) ?_
          rotate_left
          · intro w hSw
            (try dsimp only at hSw)
            go_simp
            try with_reducible rfl
          try simp only [Act.put]
          refine wpAnyL_ready (rs := [21]) (by kernel_rfl) (by simp) ?_
          refine AllL.cons rfl (by rfl) (fun K hK => ?_) AllL.nil
          have HKK := Lib.hid hK
          clear hK
          have HSS := Lib.hid SS
          clear SS
          go_simp
          have N5 := Lib.hid ((N4.out.upK 4 rfl).set (i := 1) (.slice L1 (k + 1) cL1))
          have cg2 := (N5.out).cellK 0 rfl
          have fg2 := (N5.out).frozenK 0 rfl
          have SS : ∀ L', L'.getD 10 true = true → L'.getD 18 true = true → SRg (g0 + 2) (g0 + 1) gt (.slice L k cL) (.slice C k cC) (.int .i64 t.cost) L' (World.setCell wN4 ⟨g0 + 1, 1, none⟩ (.slice L1 (k + 1) cL1)) := fun L' h1 h2 => ⟨(N5.out).cellK 4 rfl 0, (N5.out).cellK 3 rfl 3, (fun h => by rw [h1] at h; cases h), (fun h => by rw [h2] at h; cases h)⟩
          refine HKK.out _ _ (SS _ (by rfl) (by rfl)) ?_
          clear HKK K HSS cg fg
          try simp only [Act.put]
          refine wpAnyL_take (i := 22) (m := 23) (SI := (fun _ => True)) (v := ?_) rfl (by kernel_rfl) (by kernel_rfl) (by kernel_rfl) (by kernel_rfl) (by rfl) (by decide) (fun _ _ => SRg_x (by decide) (by decide)) (fun _ _ _ _ => trivial) (fun _ _ _ h => h) (Or.inl ⟨by rfl, ?_⟩) (SS _ (by rfl) (by rfl)) ?_
          rotate_left
          · intro w hSw
            (try dsimp only at hSw)
            go_simp
            try with_reducible rfl
          try simp only [Act.put, List.setIfInBounds_toArray]
          refine wpAnyL_take (i := 23) (m := 24) (SI := (fun _ => True)) (v := ?_) rfl (by kernel_rfl) (by kernel_rfl) (by kernel_rfl) (by kernel_rfl) (by rfl) (by decide) (fun _ _ => SRg_x (by decide) (by decide)) (fun _ _ _ _ => trivial) (fun _ _ _ h => h) (Or.inl ⟨by rfl, ?_⟩) (SS _ (by rfl) (by rfl)) ?_
          rotate_left
          · intro w hSw
            (try dsimp only at hSw)
            go_simp
            try with_reducible rfl
          try simp only [Act.put]
          refine wpAnyL_ready (rs := [24]) (by kernel_rfl) (by simp) ?_
          refine AllL.cons rfl (by rfl) (fun K hK => ?_) AllL.nil
          have HKK := Lib.hid hK
          clear hK
          have HSS := Lib.hid SS
          clear SS
          go_simp
          have N6 := Lib.hid (N5.out.set (i := 2) (.slice C1 (k + 1) cC1))
          have SS : ∀ L', L'.getD 10 true = true → L'.getD 18 true = true → SRg (g0 + 2) (g0 + 1) gt (.slice L k cL) (.slice C k cC) (.int .i64 t.cost) L' (World.setCell (World.setCell wN4 ⟨g0 + 1, 1, none⟩ (.slice L1 (k + 1) cL1)) ⟨g0 + 1, 2, none⟩ (.slice C1 (k + 1) cC1)) := fun L' h1 h2 => ⟨(N6.out).cellK 4 rfl 0, (N6.out).cellK 3 rfl 3, (fun h => by rw [h1] at h; cases h), (fun h => by rw [h2] at h; cases h)⟩
          refine HKK.out _ _ (SS _ (by rfl) (by rfl)) ?_
          clear HKK K HSS SS cg2 fg2
          try simp only [Act.put]
          refine wpAnyL_done (by kernel_rfl) ?_ _
          refine NoPanic.normal ?_
          have ME := Lib.hid ((((((N6.out).delK 1).delK 1).delK 1).upK 1 rfl).upO 1 rfl)
          go_wp2
          go_roundw
          case rel => exact ⟨k + 1, by omega, by go_num, L1, cL1, C1, cC1, ME⟩
          case measure => simp [intOf]; omega
        · have HKK := Lib.hid hK
          clear hK
          go_simp
          have N7 := Lib.hid ((N1.out).alloc 3 #[.int .i64 t.cost])
          try simp only [World.size_alloc] at N7
          refine HKK.out _ _ ⟨(N7.out).cellK 3 rfl 0, (N7.out).cellK 2 rfl 3, fun _ => (N7.out).cellK 4 rfl 1, fun _ => (N7.out).cellK 4 rfl 2⟩ ?_
          clear HKK K
          try simp only [Act.put, List.setIfInBounds_toArray, List.set_cons_zero, List.set_cons_succ]
          refine wpAnyL_ready (rs := [10]) (by kernel_rfl) (by simp) ?_
          refine AllL.cons rfl (by rfl) (fun K hK => ?_) AllL.nil
          have HKK := Lib.hid hK
          clear hK
          refine wp_append_sl _ (.tmp 38) (.tmp 42) 52 rfl w.heap.size 56 j0 _ 3 24 Try.underlying52 hyi hy0 hy1 hy2 rfl (by omega) (.slice L k cL) k (ldV (newL (ts.take k))) rfl ((N7.out).rowO 0 rfl) _ 1 1 [.int .i64 0, .int .i64 0, .int .i64 t.cost] rfl (rd_blk ((N7.out).blkK 1 rfl)) (by simp [Value.oneCell']) (by unfold maxLen; omega) (by omega) (N7.out).base (k + 1) rfl ?_
          intro L1 cL1 wN8 hoN8 hgN8 hatN8
          rw [hnl.out] at hoN8
          have N8 := Lib.hid ((N7.out).grow hgN8 hoN8 hatN8)
          refine HKK.out _ _ ⟨(N8.out).cellK 3 rfl 0, (N8.out).cellK 2 rfl 3, fun _ => (N8.out).cellK 4 rfl 1, fun _ => (N8.out).cellK 4 rfl 2⟩ ?_
          clear HKK K
          try simp only [Act.put, List.setIfInBounds_toArray]
          refine wpAnyL_ready (rs := [18]) (by kernel_rfl) (by simp) ?_
          refine AllL.cons rfl (by rfl) (fun K hK => ?_) AllL.nil
          have HKK := Lib.hid hK
          clear hK
          refine wp_append_sl _ (.tmp 47) (.tmp 50) 23 rfl w.heap.size 3 i0 _ 1 8 Try.underlying23 hi0 hz0 hz1 hz2 rfl (by omega) (.slice C k cC) k (ints ((ts.take k).map TD.cost)) rfl ((N8.out).rowO 1 rfl) _ 1 1 [.int .i64 t.cost] rfl (rd_blk ((N8.out).blkK 0 rfl)) (by simp [Value.oneCell']) (by unfold maxLen; omega) (by omega) (N8.out).base (k + 1) rfl ?_
          intro C1 cC1 wN9 hoN9 hgN9 hatN9
          rw [hnc.out] at hoN9
          have N9 := Lib.hid (((N8.out).upO 1 rfl).grow hgN9 hoN9 hatN9)
          refine HKK.out _ _ ⟨(N9.out).cellK 3 rfl 0, (N9.out).cellK 2 rfl 3, fun _ => (N9.out).cellK 4 rfl 1, fun _ => (N9.out).cellK 4 rfl 2⟩ ?_
          clear HKK K
          try simp only [Act.put]
          have cg := (N9.out).cellK 4 rfl
          have fg := (N9.out).frozenK 4 rfl
          have SS : ∀ L', L'.getD 10 true = true → L'.getD 18 true = true → SRg (g0 + 2) (g0 + 1) gt (.slice L k cL) (.slice C k cC) (.int .i64 t.cost) L' wN9 := fun L' h1 h2 => ⟨(N9.out).cellK 3 rfl 0, (N9.out).cellK 2 rfl 3, (fun h => by rw [h1] at h; cases h), (fun h => by rw [h2] at h; cases h)⟩
          refine wpAnyL_take (i := 19) (m := 20) (SI := (fun _ => True)) (v := ?_) rfl (by kernel_rfl) (by kernel_rfl) (by kernel_rfl) (by kernel_rfl) (by rfl) (by decide) (fun _ _ => SRg_x (by decide) (by decide)) (fun _ _ _ _ => trivial) (fun _ _ _ h => h) (Or.inl ⟨by rfl, ?_⟩) (SS _ (by rfl) (by rfl)) ?_
          rotate_left
          · intro w hSw
            (try dsimp only at hSw)
            go_simp
            try with_reducible rfl
          try simp only [Act.put]
          refine wpAnyL_take (i := 20) (m := 21) (SI := (fun _ => True)) (v := ?_) rfl (by kernel_rfl) (by kernel_rfl) (by kernel_rfl) (by kernel_rfl) (by rfl) (by decide) (fun _ _ => SRg_x (by decide) (by decide)) (fun _ _ _ _ => trivial) (fun _ _ _ h => h) (Or.inl ⟨by rfl, ?_⟩) (SS _ (by rfl) (by rfl)) ?_
          rotate_left
          · intro w hSw
            (try dsimp only at hSw)
            go_simp
            try with_reducible rfl
          try simp only [Act.put]
          refine wpAnyL_ready (rs := [21]) (by kernel_rfl) (by simp) ?_
          refine AllL.cons rfl (by rfl) (fun K hK => ?_) AllL.nil
          have HKK := Lib.hid hK
          clear hK
          have HSS := Lib.hid SS
          clear SS
          go_simp
          have N10 := Lib.hid ((N9.out.upK 4 rfl).set (i := 1) (.slice L1 (k + 1) cL1))
          have cg2 := (N10.out).cellK 0 rfl
          have fg2 := (N10.out).frozenK 0 rfl
          have SS : ∀ L', L'.getD 10 true = true → L'.getD 18 true = true → SRg (g0 + 2) (g0 + 1) gt (.slice L k cL) (.slice C k cC) (.int .i64 t.cost) L' (World.setCell wN9 ⟨g0 + 1, 1, none⟩ (.slice L1 (k + 1) cL1)) := fun L' h1 h2 => ⟨(N10.out).cellK 4 rfl 0, (N10.out).cellK 3 rfl 3, (fun h => by rw [h1] at h; cases h), (fun h => by rw [h2] at h; cases h)⟩
          refine HKK.out _ _ (SS _ (by rfl) (by rfl)) ?_
          clear HKK K HSS cg fg
          try simp only [Act.put]
          refine wpAnyL_take (i := 22) (m := 23) (SI := (fun _ => True)) (v := ?_) rfl (by kernel_rfl) (by kernel_rfl) (by kernel_rfl) (by kernel_rfl) (by rfl) (by decide) (fun _ _ => SRg_x (by decide) (by decide)) (fun _ _ _ _ => trivial) (fun _ _ _ h => h) (Or.inl ⟨by rfl, ?_⟩) (SS _ (by rfl) (by rfl)) ?_
          rotate_left
          · intro w hSw
            (try dsimp only at hSw)
            go_simp
            try with_reducible rfl
          try simp only [Act.put, List.setIfInBounds_toArray]
          refine wpAnyL_take (i := 23) (m := 24) (SI := (fun _ => True)) (v := ?_) rfl (by kernel_rfl) (by kernel_rfl) (by kernel_rfl) (by kernel_rfl) (by rfl) (by decide) (fun _ _ => SRg_x (by decide) (by decide)) (fun _ _ _ _ => trivial) (fun _ _ _ h => h) (Or.inl ⟨by rfl, ?_⟩) (SS _ (by rfl) (by rfl)) ?_
          rotate_left
          · intro w hSw
            (try dsimp only at hSw)
            go_simp
            try with_reducible rfl
          try simp only [Act.put]
          refine wpAnyL_ready (rs := [24]) (by kernel_rfl) (by simp) ?_
          refine AllL.cons rfl (by rfl) (fun K hK => ?_) AllL.nil
          have HKK := Lib.hid hK
          clear hK
          have HSS := Lib.hid SS
          clear SS
          go_simp
          have N11 := Lib.hid (N10.out.set (i := 2) (.slice C1 (k + 1) cC1))
          have SS : ∀ L', L'.getD 10 true = true → L'.getD 18 true = true → SRg (g0 + 2) (g0 + 1) gt (.slice L k cL) (.slice C k cC) (.int .i64 t.cost) L' (World.setCell (World.setCell wN9 ⟨g0 + 1, 1, none⟩ (.slice L1 (k + 1) cL1)) ⟨g0 + 1, 2, none⟩ (.slice C1 (k + 1) cC1)) := fun L' h1 h2 => ⟨(N11.out).cellK 4 rfl 0, (N11.out).cellK 3 rfl 3, (fun h => by rw [h1] at h; cases h), (fun h => by rw [h2] at h; cases h)⟩
          refine HKK.out _ _ (SS _ (by rfl) (by rfl)) ?_
          clear HKK K HSS SS cg2 fg2
          try simp only [Act.put]
          refine wpAnyL_done (by kernel_rfl) ?_ _
          refine NoPanic.normal ?_
          have ME := Lib.hid ((((((N11.out).delK 1).delK 1).delK 1).upK 1 rfl).upO 1 rfl)
          go_wp2
          go_roundw
          case rel => exact ⟨k + 1, by omega, by go_num, L1, cL1, C1, cC1, ME⟩
          case measure => simp [intOf]; omega
      · have HKK := Lib.hid hK
        clear hK
        go_simp
        have N12 := Lib.hid ((M3.out).alloc 3 #[.int .i64 t.cost])
        try simp only [World.size_alloc] at N12
        refine HKK.out _ _ ⟨(N12.out).cellK 2 rfl 0, (N12.out).cellK 1 rfl 3, fun _ => (N12.out).cellK 3 rfl 1, fun _ => (N12.out).cellK 3 rfl 2⟩ ?_
        clear HKK K
        try simp only [Act.put, List.setIfInBounds_toArray, List.set_cons_zero, List.set_cons_succ]
        refine wpAnyL_ready (rs := [9]) (by kernel_rfl) (by simp) ?_
        refine AllL.cons rfl (by rfl) (fun K hK => ?_) AllL.nil
        have HKK := Lib.hid hK
        clear hK
        go_simp
        have N13 := Lib.hid ((N12.out).alloc 56 #[.int .i64 0, .int .i64 0, .int .i64 t.cost])
        try simp only [World.size_alloc] at N13
        refine HKK.out _ _ ⟨(N13.out).cellK 3 rfl 0, (N13.out).cellK 2 rfl 3, fun _ => (N13.out).cellK 4 rfl 1, fun _ => (N13.out).cellK 4 rfl 2⟩ ?_
        clear HKK K
        try simp only [Act.put, List.setIfInBounds_toArray, List.set_cons_zero, List.set_cons_succ]
        refine wpAnyL_ready (rs := [10]) (by kernel_rfl) (by simp) ?_
        refine AllL.cons rfl (by rfl) (fun K hK => ?_) AllL.nil
        have HKK := Lib.hid hK
        clear hK
        refine wp_append_sl _ (.tmp 38) (.tmp 42) 52 rfl w.heap.size 56 j0 _ 3 24 Try.underlying52 hyi hy0 hy1 hy2 rfl (by omega) (.slice L k cL) k (ldV (newL (ts.take k))) rfl ((N13.out).rowO 0 rfl) _ 1 1 [.int .i64 0, .int .i64 0, .int .i64 t.cost] rfl (rd_blk ((N13.out).blkK 0 rfl)) (by simp [Value.oneCell']) (by unfold maxLen; omega) (by omega) (N13.out).base (k + 1) rfl ?_
        intro L1 cL1 wN14 hoN14 hgN14 hatN14
        rw [hnl.out] at hoN14
        have N14 := Lib.hid ((N13.out).grow hgN14 hoN14 hatN14)
        refine HKK.out _ _ ⟨(N14.out).cellK 3 rfl 0, (N14.out).cellK 2 rfl 3, fun _ => (N14.out).cellK 4 rfl 1, fun _ => (N14.out).cellK 4 rfl 2⟩ ?_
        clear HKK K
        try simp only [Act.put, List.setIfInBounds_toArray]
        refine wpAnyL_ready (rs := [18]) (by kernel_rfl) (by simp) ?_
        refine AllL.cons rfl (by rfl) (fun K hK => ?_) AllL.nil
        have HKK := Lib.hid hK
        clear hK
        refine wp_append_sl _ (.tmp 47) (.tmp 50) 23 rfl w.heap.size 3 i0 _ 1 8 Try.underlying23 hi0 hz0 hz1 hz2 rfl (by omega) (.slice C k cC) k (ints ((ts.take k).map TD.cost)) rfl ((N14.out).rowO 1 rfl) _ 1 1 [.int .i64 t.cost] rfl (rd_blk ((N14.out).blkK 1 rfl)) (by simp [Value.oneCell']) (by unfold maxLen; omega) (by omega) (N14.out).base (k + 1) rfl ?_
        intro C1 cC1 wN15 hoN15 hgN15 hatN15
        rw [hnc.out] at hoN15
        have N15 := Lib.hid (((N14.out).upO 1 rfl).grow hgN15 hoN15 hatN15)
        refine HKK.out _ _ ⟨(N15.out).cellK 3 rfl 0, (N15.out).cellK 2 rfl 3, fun _ => (N15.out).cellK 4 rfl 1, fun _ => (N15.out).cellK 4 rfl 2⟩ ?_
        clear HKK K
        try simp only [Act.put]
        have cg := (N15.out).cellK 4 rfl
        have fg := (N15.out).frozenK 4 rfl
        have SS : ∀ L', L'.getD 10 true = true → L'.getD 18 true = true → SRg (g0 + 2) (g0 + 1) gt (.slice L k cL) (.slice C k cC) (.int .i64 t.cost) L' wN15 := fun L' h1 h2 => ⟨(N15.out).cellK 3 rfl 0, (N15.out).cellK 2 rfl 3, (fun h => by rw [h1] at h; cases h), (fun h => by rw [h2] at h; cases h)⟩
        refine wpAnyL_take (i := 19) (m := 20) (SI := (fun _ => True)) (v := ?_) rfl (by kernel_rfl) (by kernel_rfl) (by kernel_rfl) (by kernel_rfl) (by rfl) (by decide) (fun _ _ => SRg_x (by decide) (by decide)) (fun _ _ _ _ => trivial) (fun _ _ _ h => h) (Or.inl ⟨by rfl, ?_⟩) (SS _ (by rfl) (by rfl)) ?_
        rotate_left
        · intro w hSw
          (try dsimp only at hSw)
          go_simp
          try with_reducible rfl
        try simp only [Act.put]
        refine wpAnyL_take (i := 20) (m := 21) (SI := (fun _ => True)) (v := ?_) rfl (by kernel_rfl) (by kernel_rfl) (by kernel_rfl) (by kernel_rfl) (by rfl) (by decide) (fun _ _ => SRg_x (by decide) (by decide)) (fun _ _ _ _ => trivial) (fun _ _ _ h => h) (Or.inl ⟨by rfl, ?_⟩) (SS _ (by rfl) (by rfl)) ?_
        rotate_left
        · intro w hSw
          (try dsimp only at hSw)
          go_simp
          try with_reducible rfl
        try simp only [Act.put]
        refine wpAnyL_ready (rs := [21]) (by kernel_rfl) (by simp) ?_
        refine AllL.cons rfl (by rfl) (fun K hK => ?_) AllL.nil
        have HKK := Lib.hid hK
        clear hK
        have HSS := Lib.hid SS
        clear SS
        go_simp
        have N16 := Lib.hid ((N15.out.upK 4 rfl).set (i := 1) (.slice L1 (k + 1) cL1))
        have cg2 := (N16.out).cellK 0 rfl
        have fg2 := (N16.out).frozenK 0 rfl
        have SS : ∀ L', L'.getD 10 true = true → L'.getD 18 true = true → SRg (g0 + 2) (g0 + 1) gt (.slice L k cL) (.slice C k cC) (.int .i64 t.cost) L' (World.setCell wN15 ⟨g0 + 1, 1, none⟩ (.slice L1 (k + 1) cL1)) := fun L' h1 h2 => ⟨(N16.out).cellK 4 rfl 0, (N16.out).cellK 3 rfl 3, (fun h => by rw [h1] at h; cases h), (fun h => by rw [h2] at h; cases h)⟩
        refine HKK.out _ _ (SS _ (by rfl) (by rfl)) ?_
        clear HKK K HSS cg fg
        try simp only [Act.put]
        refine wpAnyL_take (i := 22) (m := 23) (SI := (fun _ => True)) (v := ?_) rfl (by kernel_rfl) (by kernel_rfl) (by kernel_rfl) (by kernel_rfl) (by rfl) (by decide) (fun _ _ => SRg_x (by decide) (by decide)) (fun _ _ _ _ => trivial) (fun _ _ _ h => h) (Or.inl ⟨by rfl, ?_⟩) (SS _ (by rfl) (by rfl)) ?_
        rotate_left
        · intro w hSw
          (try dsimp only at hSw)
          go_simp
          try with_reducible rfl
        try simp only [Act.put, List.setIfInBounds_toArray]
        refine wpAnyL_take (i := 23) (m := 24) (SI := (fun _ => True)) (v := ?_) rfl (by kernel_rfl) (by kernel_rfl) (by kernel_rfl) (by kernel_rfl) (by rfl) (by decide) (fun _ _ => SRg_x (by decide) (by decide)) (fun _ _ _ _ => trivial) (fun _ _ _ h => h) (Or.inl ⟨by rfl, ?_⟩) (SS _ (by rfl) (by rfl)) ?_
        rotate_left
        · intro w hSw
          (try dsimp only at hSw)
          go_simp
          try with_reducible rfl
        try simp only [Act.put]
        refine wpAnyL_ready (rs := [24]) (by kernel_rfl) (by simp) ?_
        refine AllL.cons rfl (by rfl) (fun K hK => ?_) AllL.nil
        have HKK := Lib.hid hK
        clear hK
        have HSS := Lib.hid SS
        clear SS
        go_simp
        have N17 := Lib.hid (N16.out.set (i := 2) (.slice C1 (k + 1) cC1))
        have SS : ∀ L', L'.getD 10 true = true → L'.getD 18 true = true → SRg (g0 + 2) (g0 + 1) gt (.slice L k cL) (.slice C k cC) (.int .i64 t.cost) L' (World.setCell (World.setCell wN15 ⟨g0 + 1, 1, none⟩ (.slice L1 (k + 1) cL1)) ⟨g0 + 1, 2, none⟩ (.slice C1 (k + 1) cC1)) := fun L' h1 h2 => ⟨(N17.out).cellK 4 rfl 0, (N17.out).cellK 3 rfl 3, (fun h => by rw [h1] at h; cases h), (fun h => by rw [h2] at h; cases h)⟩
        refine HKK.out _ _ (SS _ (by rfl) (by rfl)) ?_
        clear HKK K HSS SS cg2 fg2
        try simp only [Act.put]
        refine wpAnyL_done (by kernel_rfl) ?_ _
        refine NoPanic.normal ?_
        have ME := Lib.hid ((((((N17.out).delK 1).delK 1).delK 1).upK 1 rfl).upO 1 rfl)
        go_wp2
        go_roundw
        case rel => exact ⟨k + 1, by omega, by go_num, L1, cL1, C1, cC1, ME⟩
        case measure => simp [intOf]; omega
    · obtain rfl : k = n := by omega
      have hl0 : newL (ts.take k) = (stdB ts (relR ts.length []) 0).ls := by
        rw [List.take_of_length_le (by rw [HL.out]; exact Nat.le_refl _)]
        exact start_ls ts HK.out
      rw [hl0, List.take_of_length_le (by rw [HL.out]; exact Nat.le_refl _)] at HM
      obtain ⟨gl, rfl, hg1, hg2⟩ := HM.out.head (by omega)
      have HLS := Lib.hid hl0
      clear hl0
      go_wp2_with fail
      refine (callsIn_wide.1 (rels_in 4 A k c U _)).mono ?_
      rintro e w3 ⟨rfl, rfl⟩
      have M4 := Lib.hid ((HM.out.alloc 22 #[.slice A k c]).alloc 3 #[.int .i64 (U : Int)])
      have hsz := HM.out.base
      have hCb : Hid (∀ x, C = some x → x.block < wr.heap.size) := fun x hx => (own_blk_lt (HM.out.rowO 1 rfl) x hx).2
      have hAb : Hid (∀ x, A = some x → x.block < w.heap.size) := fun x hx => by
        obtain ⟨b, o, t, e, _, hb, _⟩ := task_at HR.out (show 0 < k by omega)
        rw [hx] at e
        injection e with e
        rw [e]
        exact hb
      have hgb := (HM.out.ltK 1 rfl).2
      have hgp := (HM.out.ltK 0 rfl).2
      have hgf := (HM.out.ltK 2 rfl).2
      have hgr := (HM.out.ltK 3 rfl).2
      simp only [World.size_alloc] at M4
      go_wp2
      have zN : ((wr.alloc (.cells #[.slice A k c] 22)).alloc (.cells #[.int .i64 (U : Int)] 3)).heap.size = wr.heap.size + 2 := by simp
      generalize World.alloc (World.alloc wr _) _ = w4 at M4 zN ⊢
      generalize hBl : wr.heap.size = Bl at *
      clear hBl HM
      have HLL := Lib.hid HL.out
      refine (wpIn_wide (n := 5)).1 ?_
      refine range_next rfl (by omega) (gf := 33) (lb := #[.pointer (some ⟨Bl, 0, none⟩), .pointer (some ⟨Bl + 1, 0, none⟩)]) rfl trivial (enters_of Try.func33 (by kernel_rfl) rfl)
        (encs := fun x : Nat × Nat => #[.int .i64 (x.1 : Int), .int .i64 (x.2 : Int)]) (Nx := fun pre x => ValidE ts U (pre ++ [x])) (S := fun xs => ValidE ts U xs ∧ ∀ i, i < ts.length → (U : Int) ≤ nxtF ts (relR ts.length xs) i)
        (Kp := KpI w4.heap.size Bl (Bl + 1) A k c (U : Int) ts) (E := 3) ?seq (fun h k => h.trans k) ?kb (fun _ => rfl)
        (Carry w w4.heap.size [⟨g0 + 2, 51, #[.pointer (some ⟨g0 + 1, 0, none⟩)]⟩, ⟨Bl + 1, 3, #[.int .i64 (U : Int)]⟩, ⟨Bl, 22, #[.slice A k c]⟩, ⟨g0, 26, #[.int .i64 0, .int .i64 0, .int .i64 0]⟩, ⟨w.heap.size, 26, #[.int .i64 0, .int .i64 0, .int .i64 0]⟩] (g0 + 1) gl C k cL cC ts U)
        ?own ?ownE ?start ?a1 ?assign ?body ?done
      case seq =>
        intro l J W hW hJ hY hJ0
        have hsz := hW.size
        refine (rel1_in 4 (by omega) l W.heap.size Bl (Bl + 1) k c U A ts HK.out HL.out h16 hU J hJ (fun pre a kk W1 h1 h2 => ?_) W (Nat.le_refl _) ((M4.out.blkK 1 rfl).below hW) ((M4.out.blkK 0 rfl).below hW) ((HR.out.below M4.out.bel).below hW) hJ0).mono ?_
        · obtain ⟨fn, tm, asg, bo, y1, y2⟩ := hY pre (a, kk) W1 h1 h2
          exact ⟨fn, tm, asg, bo, y1, y2.mono (fun e W' h => ⟨h.1, h.2.1, h.2.2.mono hsz⟩)⟩
        · rintro e W' ⟨hv, pre, h1, h2, h3⟩
          exact ⟨hv, pre, ⟨h1, h2⟩, h3⟩
      case kb =>
        intro W l o o' hl ho hc
        exact KpI.put W l o o' ho hc (fun x hx => by have := hAb.out x hx; have := M4.out.base; omega)
      case own =>
        intro pre W W' row h hg hr
        exact carry_turn M4.out.base (by omega) (by omega) (by simp; omega) (fun x hx => by have := hCb.out x hx; omega) h hg (fun r e => ⟨(hr r e).1, by obtain ⟨o, h1, h2⟩ := (hr r e).2; exact ⟨o, h1, .inl h2⟩⟩)
      case ownE =>
        intro pre W W' row h hg hr
        exact carry_turn M4.out.base (by omega) (by omega) (by simp; omega) (fun x hx => by have := hCb.out x hx; omega) h hg (fun r e => ⟨(hr r e).1, by obtain ⟨cs, h1⟩ := (hr r e).2; exact ⟨_, h1, .inr ⟨cs, rfl⟩⟩⟩)
      case start =>
        refine ⟨stdB ts (relR ts.length []) 0, none, 0, Nat.zero_le _, ?_, fun _ => rfl, ?_, Nat.le_refl _⟩
        · exact start_ok ts HK.out
        · exact (M4.out.upK 2 rfl).upK 3 rfl
      case assign =>
        intro l x W K hK
        gi_wp2
        exact hK
      case body =>
        rintro l pre ⟨a, j⟩ W hc hv
        obtain ⟨hvp, hjl, hat, haU, hmin⟩ := valid_inv hv
        have hlenp := valid_len HK.out hvp
        have hge := valid_ge HK.out hvp hjl hat hmin
        have hrel := valid_next HK.out hvp hmin
        obtain ⟨s, O, cO, s1, s2, s3, MW, zW⟩ := hc
        have hs := s3 hvp
        have hplen : pre.length ≤ 320000 := by
          have h : ts.length * U ≤ 16 * 20000 := Nat.mul_le_mul (by rw [HL.out]; exact h16) hU
          omega
        have hrun := run_any w W [⟨g0 + 2, 51, #[.pointer (some ⟨g0 + 1, 0, none⟩)]⟩, ⟨Bl + 1, 3, #[.int .i64 (U : Int)]⟩, ⟨Bl, 22, #[.slice A k c]⟩, ⟨g0, 26, #[.int .i64 0, .int .i64 0, .int .i64 0]⟩, ⟨w.heap.size, 26, #[.int .i64 0, .int .i64 0, .int .i64 0]⟩] []
          (g0 + 1) gl C O k cL cC cO a (20001 * pre.length) ts s HK.out HL.out (by omega) h16 s1 (by omega) (by omega) s2 (by rw [List.append_nil]; exact MW)
        have cgp := MW.cellK 1 rfl
        have HRUN := Lib.hid hrun
        have HV := Lib.hid hv
        have HMW := Lib.hid MW
        have HS3 := Lib.hid hs
        have HREL := Lib.hid hrel
        clear hrun hv hmin hat hvp hlenp s3 hs hrel
        gi_wp2_with fail
        refine (CallsIn.inRound l (callsIn_wide.2 HRUN.out)).mono ?_
        rintro e w5 ⟨rfl, hk5, s', O', cO', hn', hok', hway, M5⟩
        rw [List.append_nil] at M5
        have hs' : s' = stdB ts (relR ts.length pre) a := by
          have e : s.now = lastT pre := by rw [HS3.out]; rfl
          have h := hway (by rw [e]; exact hge) (relR ts.length pre) (by rw [e]; exact HS3.out) (by rw [e]; exact hge) (fun i hi m m1 m2 => HREL.out i hi m (by rw [e] at m1; exact m1) m2)
          rw [hn'] at h
          exact h
        have hjs : j < s'.ls.length := by rw [hok'.1]; exact hjl
        obtain ⟨ln, hln⟩ : ∃ ln, s'.ls[j]? = some ln := ⟨_, List.getElem?_eq_getElem hjs⟩
        have hbn := hok'.2.2 j ln hln
        have hjk : j < k := by rw [← HL.out]; exact hjl
        have cln : w5.cell? ⟨gl, j * 3, none⟩ = some (.int .i64 ln.count) := by
          have h := (M5.rowO 0 rfl).cellAt (j * 3 + 0) (by omega)
          rw [Nat.add_zero] at h
          rw [h]
          exact (flat_at LD.len s'.ls j 0 ln hln (by omega)).trans rfl
        have fln := (M5.rowO 0 rfl).frozenAt (j * 3)
        have cbd := M5.cellK 0 rfl
        have cgp := M5.cellK 1 rfl
        unfold boardV at cbd
        have hj0 : (0 : Int) ≤ (j : Int) := by omega
        have hjn : (j : Int) < (k : Int) := by omega
        have hcnt0 : 0 ≤ ln.count := hbn.1
        have hcnt1 : ln.count ≤ 9000000000 := by omega
        have HK5 := Lib.hid hk5
        have HM5 := Lib.hid M5
        have HS' := Lib.hid hs'
        have HOK' := Lib.hid hok'
        have HLN := Lib.hid hln
        have HN' := Lib.hid hn'
        have HJL := Lib.hid hjl
        clear hk5 M5 hs' hok' hln hn' hway hbn hjs hjl
        gi_wp2
        have hKp := Lib.hid (HK5.out.trans (Kp.set w5 (p := ⟨gl, j * 3, none⟩) (.inr rfl) (.int .i64 (ln.count + 1))))
        have M6 := Lib.hid (HM5.out.put (j := j * 3) (.int .i64 (ln.count + 1)))
        have hni : ∀ (cs : Array Value) (t : TypeId), t ≠ 36 → ∀ cs' fr, Obj.cells cs t (0, 0) ≠ Obj.cells cs' 36 fr := fun cs t ht cs' fr e => by injection e with _ e; exact ht e
        refine ⟨⟨hKp.out.1, fun x o hx ho hc => hKp.out.2 x o (by omega) (by omega) (fun cs fr e => by rw [e] at hc; cases hc) ho⟩,
          ⟨fun r cs hr h => hKp.out.2 r _ (by omega) (by omega) (hni _ _ (by decide)) h, fun h => hKp.out.2 Bl _ (by omega) (by omega) (hni _ _ (by decide)) h, fun h => hKp.out.2 (Bl + 1) _ (by omega) (by omega) (hni _ _ (by decide)) h, fun _ => HR.out.below M6.out.bel, hKp.out.1⟩,
          ⟨a, s'.ls.set j ⟨ln.count + 1, ln.job, ln.left⟩, s'.q⟩, O', cO', show a ≤ 20000 by omega, ?_, fun _ => ?_, ?_, Nat.le_trans zW hKp.out.1⟩
        · refine ⟨by simpa using HOK'.out.1, Nat.le_trans HOK'.out.2.1 (by simp; omega), fun i l hl => ?_⟩
          simp only [List.length_append, List.length_singleton]
          have hjs := (List.getElem?_eq_some_iff.1 HLN.out).1
          by_cases e : j = i
          · subst e
            simp only at hl
            rw [List.getElem?_set_self hjs] at hl
            injection hl with hl
            have h := HOK'.out.2.2 j ln HLN.out
            rw [← hl]
            simp only
            omega
          · simp only at hl
            rw [List.getElem?_set_ne e] at hl
            have h := HOK'.out.2.2 i l hl
            omega
        · rw [lastT_snoc]
          have h := HLN.out
          rw [HS'.out] at h ⊢
          simp only [stdB] at h ⊢
          rw [line_rel HJL.out h]
        · have e : ldV (s'.ls.set j ⟨ln.count + 1, ln.job, ln.left⟩) = (ldV s'.ls).set (j * 3) (.int .i64 (ln.count + 1)) := ld_first HLN.out
          have h := M6.out
          rw [← e] at h
          exact h
      case done =>
        rintro D xs W hD ⟨hv, hmin⟩ hc hdef
        have hlenp := valid_len HK.out hv
        have hge := (valid_rel HK.out hv).2
        have hrel := valid_next HK.out hv hmin
        obtain ⟨s, O, cO, s1, s2, s3, MW, zW⟩ := hc
        have hs := s3 hv
        have hplen : xs.length ≤ 320000 := by
          have h : ts.length * U ≤ 16 * 20000 := Nat.mul_le_mul (by rw [HL.out]; exact h16) hU
          omega
        have hrun := run_any w W [⟨g0 + 2, 51, #[.pointer (some ⟨g0 + 1, 0, none⟩)]⟩, ⟨Bl + 1, 3, #[.int .i64 (U : Int)]⟩, ⟨Bl, 22, #[.slice A k c]⟩, ⟨g0, 26, #[.int .i64 0, .int .i64 0, .int .i64 0]⟩, ⟨w.heap.size, 26, #[.int .i64 0, .int .i64 0, .int .i64 0]⟩] []
          (g0 + 1) gl C O k cL cC cO U (20001 * xs.length) ts s HK.out HL.out (by omega) h16 s1 hU (by omega) s2 (by rw [List.append_nil]; exact MW)
        have cgp := MW.cellK 1 rfl
        have HRUN := Lib.hid hrun
        have HS3 := Lib.hid hs
        have HREL := Lib.hid hrel
        have HDEF := Lib.hid hdef
        have HDD := Lib.hid hD
        clear hrun hv hmin hlenp s3 hs hrel hdef
        go_wp2_with fail
        refine HRUN.out.mono ?_
        rintro e w5 ⟨rfl, hk5, s', O', cO', hn', hok', hway, M5⟩
        rw [List.append_nil] at M5
        have hq' : s'.q = (playF ts U).2 := by
          have e : s.now = lastT xs := by rw [HS3.out]; rfl
          have h := hway (by rw [e]; exact hge) (relR ts.length xs) (by rw [e]; exact HS3.out) (by rw [e]; exact hge) (fun i hi m m1 m2 => HREL.out i hi m (by rw [e] at m1; exact m1) m2)
          rw [hn'] at h
          rw [h]
          rfl
        have cbd := M5.cellK 0 rfl
        have cgp := M5.cellK 1 rfl
        have crs := M5.cellK 5 rfl
        have frs := M5.frozenK 5 rfl
        have zrs := (M5.ltK 5 rfl).2
        unfold boardV at cbd
        have HQ' := Lib.hid hq'
        have M6 := Lib.hid ((((M5.upK 5 rfl).set (i := 0) (.int .i64 0)).set (i := 1) (.int .i64 0)).set (i := 2) (.int .i64 0))
        have hD1 : Hid (w5.heap[D]? = some (.deferred (some []))) := hk5.2 D _ (by omega) (by omega) (fun cs fr e => by cases e) HDEF.out
        have hDw : D ≠ w.heap.size := by omega
        clear hk5 M5 hq' hok' hn' hway
        go_wp2
        have hDX : Hid ((((w5.setCell ⟨w.heap.size, 0, none⟩ (.int .i64 0)).setCell ⟨w.heap.size, 1, none⟩ (.int .i64 0)).setCell ⟨w.heap.size, 2, none⟩ (.int .i64 0)).heap[D]? = some (.deferred (some []))) :=
          (Below.heap_setCell _ ⟨w.heap.size, 2, none⟩ _ D hDw).trans ((Below.heap_setCell _ ⟨w.heap.size, 1, none⟩ _ D hDw).trans ((Below.heap_setCell _ ⟨w.heap.size, 0, none⟩ _ D hDw).trans hD1.out))
        generalize World.setCell (World.setCell (World.setCell w5 _ _) _ _) _ _ = X at M6 hDX ⊢
        refine ⟨by simp, .inl ⟨_, _, rfl, run_takeDeferred hDX.out, ?_⟩⟩
        have hb := M6.out.blkK 0 rfl
        have hb' : Blk (X.putObj D (.deferred none)) w.heap.size 26 #[.int .i64 0, .int .i64 0, .int .i64 0] := (World.putObj_heap_other (Ne.symm hDw)).trans hb
        have cX := hb'.cell
        have hX := M6.out.rowO 2 rfl
        have hX' := ownsRow_putObj hX (.deferred none) hDX.out rfl
        have hB' := M6.out.bel.trans (belowK_b (w := w) (Nat.le_refl _) X D _ (.deferred none) (by omega) hDX.out rfl rfl)
        refine ⟨.tuple #[.slice O' s'.q.length cO', faultV (0, 0)], ?_, ?_⟩
        · simp [results, Try.results12, go_sem, cX]
        · rw [HO.out, ← HQ'.out]
          exact ⟨O', cO', rfl, hX', hB'⟩
end Go.Proofs.Ythnpeekeoaiaoaa.Task
