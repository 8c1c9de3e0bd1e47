/-
  The iterator of releases: each release comes, one behind the other. Conditions: the tasks are right and read; what the rounds keep.
-/
import Derived.Test.YthnpeekeoaiaoaaPly5
import Derived.Test.YthnpeekeoaiaoaaMake
import Derived.RangeFuncNested
import Derived.RangeFuncBound
import Derived.RangeFuncCalls
import Derived.RangeFuncLeaves
import Derived.RangeFuncBox
import Derived.Shelf.RegionOpen
import Derived.OwnWalkIn
import Derived.TacticsInMore
import Derived.LoopNIn
import Derived.LoopIn
import Derived.Sort.QuietIn
import Derived.IntWalk
namespace Go.Proofs.Ythnpeekeoaiaoaa.Task
open Go.RowKit Go.Shelf Go.Proofs.Ythnpeekeoaiaoaa.W Go.Proofs.Ythnpeekeoaiaoaa.Ints

attribute [local go_sem] Oper.semAt_some
theorem wide_askedP {P : Program} {o : Oper} {a : Act} {C : World → Prop} : Oper.askedIn Fence.wide P o a C = True := eq_true fun _ _ _ _ => trivial
theorem wide_fnP (f : FuncId) : Fence.wide.fn f = True := rfl
attribute [local go_sem] wide_askedP wide_fnP

theorem rels_in (n : Nat) (A : Option Addr) (len cap : Nat) (U : Int) (w : World) :
    CallsIn Fence.wide n Try.prog 25 #[.slice A len cap, .int .i64 U] w fun e w' =>
      e = .returned (.func (.func 33) #[] #[.pointer (some ⟨w.heap.size, 0, none⟩), .pointer (some ⟨w.heap.size + 1, 0, none⟩)]) ∧ w' = (w.alloc (.cells #[.slice A len cap] 22)).alloc (.cells #[.int .i64 U] 3) := by
  refine callsIn_of_wp Try.func25 rfl trivial ?_ rfl
  simp only [Try.ntmps25, List.size_toArray, List.length_cons, List.length_nil, Nat.reduceAdd, Nat.reduceSub, Array.replicate_succ, Array.replicate_zero, List.push_toArray, List.append_toArray, List.nil_append, List.cons_append]
  gi_wp2
  go_ret
  exact ⟨by simp, rfl⟩

/-- what a round must keep: rows of ints from B on, the maker's two boxes, the tasks -/
def KpI (B Bl Bu : Nat) (A : Option Addr) (n c : Nat) (U : Int) (ts : List TD) (W W' : World) : Prop :=
  (∀ r cs, B ≤ r → W.heap[r]? = some (.cells cs 3 (0, 0)) → W'.heap[r]? = some (.cells cs 3 (0, 0))) ∧ (Boxed W Bl 22 (.slice A n c) → Boxed W' Bl 22 (.slice A n c)) ∧ (Boxed W Bu 3 (.int .i64 U) → Boxed W' Bu 3 (.int .i64 U)) ∧ (Rd W 5 A n (tasksV ts) → Rd W' 5 A n (tasksV ts)) ∧ W.heap.size ≤ W'.heap.size
/-- the caller's word between two rounds abides new blocks, and the turn of a row of ints from B on -/
def AbidesI (B : Nat) (J : List (Nat × Nat) → World → Prop) : Prop := ∀ pre A A' row, J pre A → A.grownBy A' row → (∀ r, row = some r → B ≤ r ∧ ∃ cs, A.heap[r]? = some (.cells cs 3 (0, 0))) → J pre A'

theorem own_kp {B Bl Bu n c m c' gx : Nat} {U : Int} {A : Option Addr} {ts : List TD} {w w' : World} {xs : List Value} (h : w.ownsRow B 3 1 (.slice (some ⟨gx, 0, none⟩) m c') m xs) (hk : KpI B Bl Bu A n c U ts w w') : w'.ownsRow B 3 1 (.slice (some ⟨gx, 0, none⟩) m c') m xs := by
  refine ⟨h.1, ?_⟩
  rcases h.2 with ⟨h1, _⟩ | ⟨g, cap, cur, hv, hb, hh, rest⟩
  · cases h1
  · have e : gx = g := by injection hv with hv; injection hv with hv; injection hv
    subst e
    exact .inr ⟨gx, cap, cur, hv, hb, hk.1 gx cur hb hh, rest⟩
theorem grownP (w : World) (k : Nat) : w.grownBy (w.drewN k) none := ⟨rfl, rfl, rfl, Nat.le_refl _, fun _ _ _ => rfl⟩
theorem keep_alloc {B Bl Bu n c gx : Nat} {U : Int} {A : Option Addr} {ts : List TD} {J : List (Nat × Nat) → World → Prop} (hJ : AbidesI B J) {pre : List (Nat × Nat)} {w : World} {xs : List Value} (h1 : J pre w) (h2 : w.ownsRow B 3 1 (.slice (some ⟨gx, 0, none⟩) n n) n xs)
    (h3 : Boxed w Bl 22 (.slice A n c)) (h4 : Boxed w Bu 3 (.int .i64 U)) (h5 : Rd w 5 A n (tasksV ts)) (o : Obj) (q : Nat) :
    J pre ((w.alloc o).drewN q) ∧ ((w.alloc o).drewN q).ownsRow B 3 1 (.slice (some ⟨gx, 0, none⟩) n n) n xs ∧ Boxed ((w.alloc o).drewN q) Bl 22 (.slice A n c) ∧ Boxed ((w.alloc o).drewN q) Bu 3 (.int .i64 U) ∧ Rd ((w.alloc o).drewN q) 5 A n (tasksV ts) :=
  ⟨hJ _ _ _ none (hJ _ _ _ none h1 (World.grownBy_alloc w o none) (fun r e => by cases e)) (grownP _ q) (fun r e => by cases e), h2.alloc o, h3.alloc o, h4.alloc o, h5.alloc o⟩

set_option maxRecDepth 100000 in
set_option maxHeartbeats 6400000 in
theorem rel1_in (d : Nat) (hd : 1 ≤ d) (l B Bl Bu n c U : Nat) (A : Option Addr) (ts : List TD) (ha : ts.all TD.okB = true) (hn : ts.length = n) (hn1 : n ≤ 16) (hU : U ≤ 20000) (J : List (Nat × Nat) → World → Prop) (hJ : AbidesI B J)
    (hY : ∀ pre (a k : Nat) W, J pre W → ValidE ts U (pre ++ [(a, k)]) → YieldAt Fence.wide (d - 1) Try.prog l #[.int .i64 (a : Int), .int .i64 (k : Int)] W fun e W' => e = .returned (.bool true) ∧ J (pre ++ [(a, k)]) W' ∧ KpI B Bl Bu A n c U ts W W')
    (W : World) (hB : B ≤ W.heap.size) (hl : Boxed W Bl 22 (.slice A n c)) (hu : Boxed W Bu 3 (.int .i64 (U : Int))) (hr : Rd W 5 A n (tasksV ts)) (h0 : J [] W) :
    CallsIn Fence.wide d Try.prog 33 #[.func (.yield l) #[] #[], .pointer (some ⟨Bl, 0, none⟩), .pointer (some ⟨Bu, 0, none⟩)] W fun e W' => (∃ v, e = .returned v) ∧ ∃ pre, ValidE ts U pre ∧ (∀ i, i < ts.length → (U : Int) ≤ nxtF ts (relR ts.length pre) i) ∧ J pre W' := by
  have HL := Lib.hid hn
  have HA := Lib.hid ha
  have HJ := Lib.hid hJ
  have HY := Lib.hid hY
  have HR := Lib.hid hr
  have H0 := Lib.hid h0
  have hmk := make_any n (by omega)
  have cl := hl.cell
  have cu := hu.cell
  clear hn ha hJ hY hr h0
  refine callsIn_of_wp Try.func33 rfl trivial ?_ rfl
  simp only [Try.ntmps33, List.size_toArray, List.length_cons, List.length_nil, Nat.reduceAdd, Nat.reduceSub, Array.replicate_succ, Array.replicate_zero, List.push_toArray, List.append_toArray, List.nil_append, List.cons_append]
  gi_wp2
  have hJ1 : J [] (W.alloc (.cells (noughts n) 3)) := HJ.out _ _ _ none H0.out (World.grownBy_alloc W _ none) (fun r e => by cases e)
  have hrow1 : (W.alloc (.cells (noughts n) 3)).ownsRow B 3 1 (.slice (some ⟨W.heap.size, 0, none⟩) n n) n (ints (relR n [])) := by
    rw [relR_nil]
    exact make_own n (by omega) W hB
  have hl1 := hl.alloc (.cells (noughts n) 3)
  have hu1 := hu.alloc (.cells (noughts n) 3)
  have HR1 := Lib.hid (HR.out.alloc (.cells (noughts n) 3))
  have hBl := hl.lt
  have hBu := hu.lt
  have HAb : Hid (∀ a, A = some a → 0 < n → a.block < W.heap.size) := fun a ha hn => by
    obtain ⟨b, o, t, e, _, hb, _⟩ := task_at HR.out hn
    rw [ha] at e
    injection e with e
    rw [e]
    exact hb
  clear cl cu hl hu hmk H0
  generalize hgx : W.heap.size = gx at *
  generalize World.alloc W _ = W1 at *
  clear hgx
  have HS := Lib.hid hJ1
  have HRW := Lib.hid hrow1
  have HBL := Lib.hid hl1
  have HBU := Lib.hid hu1
  clear hJ1 hrow1 hl1 hu1
  gi_loopw [5] (fun _ wr => ∃ pre, ValidE ts U pre ∧ Hid (J pre wr) ∧ Hid (wr.ownsRow B 3 1 (.slice (some ⟨gx, 0, none⟩) n n) n (ints (relR n pre))) ∧ Hid (Boxed wr Bl 22 (.slice A n c)) ∧ Hid (Boxed wr Bu 3 (.int .i64 (U : Int))) ∧ Hid (Rd wr 5 A n (tasksV ts))) (fun _ wr => leftM ts U (readR gx n wr))
  case atStart => exact ⟨[], ValidE.nil, HS, HRW, HBL, HBU, HR1⟩
  case round =>
    clear HS HRW HBL HBU HR1
    obtain ⟨pre, hv, HS, HRW, HBL, HBU, HR1⟩ := hrel
    have cl := HBL.out.cell
    have cu := HBU.out.cell
    have HV := Lib.hid hv
    clear hv
    gi_wp2
    obtain ⟨w0, hw0⟩ : ∃ w0 : World, w0 = wr := ⟨_, rfl⟩
    subst hw0
    have HM0 : Hid (readR gx n w0 = relR n pre) := read_row HRW.out
    gi_loopw [5, 6, 7, 8, 9, 16] (fun f a _ _ _ i wi => ∃ j : Nat, j ≤ n ∧ i = .int .i64 j ∧ f = .int .i64 (scanF ts (relR n pre) U j).1 ∧ a = .int .i64 (scanF ts (relR n pre) U j).2 ∧ Hid (J pre wi) ∧ Hid (wi.ownsRow B 3 1 (.slice (some ⟨gx, 0, none⟩) n n) n (ints (relR n pre))) ∧ Hid (Boxed wi Bl 22 (.slice A n c)) ∧ Hid (Boxed wi Bu 3 (.int .i64 (U : Int))) ∧ Hid (Rd wi 5 A n (tasksV ts))) (fun _ _ _ _ _ i _ => n - (intOf i).toNat)
    case atStart => exact ⟨0, Nat.zero_le _, rfl, rfl, rfl, HS, HRW, HBL, HBU, HR1⟩
    case round =>
      clear HS HRW HBL HBU HR1 cl cu
      obtain ⟨j, hj, rfl, rfl, rfl, HS, HRW, HBL, HBU, HR1⟩ := hrel
      by_cases hlt : j < n
      · obtain ⟨b, o, t, rfl, ht, hbl, c0, c1, c2, c3, c4⟩ := task_at HR1.out hlt
        obtain ⟨p1, p2, p3, p4, p5, p6, p7, p8⟩ := ok_parts (get_ok HA.out ht)
        have hbd := valid_bd HA.out hU HV.out (show j < ts.length by rw [HL.out]; exact hlt)
        have hx : nxtF ts (relR n pre) j = t.off + ((cntE pre j : Nat) : Int) * t.per := by unfold nxtF; rw [at_off ht, at_per ht, relR_get hlt]
        rw [at_per ht] at hbd
        have cx : wr.cell? ⟨gx, j, none⟩ = some (.int .i64 ((cntE pre j : Nat) : Int)) := by
          rw [HRW.out.cellAt j (by omega)]
          simp [ints, relR_at hlt]
        have hnext := scan_next ts (relR n pre) U j
        rw [hx] at hnext
        generalize ((cntE pre j : Nat) : Int) = r at *
        generalize hsc : scanF ts (relR n pre) U j = sc at *
        obtain ⟨sf, sa⟩ := sc
        simp only at hnext
        have HX := Lib.hid hx
        have HN := Lib.hid hnext
        have hgx := lt_of_cell cx
        have hz := Nat.lt_of_lt_of_le hbl (Nat.le_refl _)
        have hj0 : (0 : Int) ≤ (j : Int) := by omega
        have hjn : (j : Int) < (n : Int) := by omega
        have r1 : IntKind.i64.wrap (r * t.per) = r * t.per := IntWalk.i64_in _ (by omega)
        have r2 : IntKind.i64.wrap (t.off + r * t.per) = t.off + r * t.per := IntWalk.i64_in _ (by omega)
        clear hx hnext ht hsc
        have GA := fun q => Lib.hid (keep_alloc HJ.out HS.out HRW.out HBL.out HBU.out HR1.out (.cells #[.string t.name, .int .i64 t.per, .int .i64 t.off, .int .i64 t.cost, .int .i64 t.dead] 42) q)
        have GAH := Lib.hid GA
        clear GA
        by_cases hc : t.off + r * t.per < sa
        · gi_wp2
          gi_quiet (fail)
          gi_wp2
          go_roundw
          case rel =>
            obtain ⟨g1, g2, g3, g4, g5⟩ := (GAH.out nq).out
            exact ⟨j + 1, by omega, by go_num, by rw [HN.out, if_pos hc], by rw [HN.out, if_pos hc], g1, g2, g3, g4, g5⟩
          case measure => simp [intOf]; omega
        · have HN2 := Lib.hid (HN.out.trans (if_neg hc))
          gi_wp2
          gi_quiet (fail)
          gi_wp2
          go_roundw
          case rel =>
            obtain ⟨g1, g2, g3, g4, g5⟩ := (GAH.out nq).out
            exact ⟨j + 1, by omega, by go_num, by rw [HN2.out], by rw [HN2.out], g1, g2, g3, g4, g5⟩
          case measure => simp [intOf]; omega
      · obtain rfl : j = n := by omega
        obtain ⟨hmin, hscan⟩ := scan_is ts (relR j pre) U j
        rcases hscan with hsc | ⟨k, hkj, hsc, hkU⟩
        · rw [hsc] at hmin ⊢
          have HMIN := Lib.hid hmin
          clear hmin hsc
          dsimp only
          gi_wp2
          refine bodyPost_ret (results_none rfl _ _ _) rfl ?_
          exact ⟨⟨_, rfl⟩, pre, HV.out, fun i hi => by
            have h : (U : Int) ≤ nxtF ts (relR j pre) i := HMIN.out i (by rw [← HL.out]; exact hi)
            rw [HL.out]
            exact h, HS.out⟩
        · have hkl : k < ts.length := by rw [HL.out]; exact hkj
          have hR := (valid_rel HA.out HV.out).1.2 k hkl
          obtain ⟨a, hat⟩ := Int.eq_ofNat_of_zero_le (show 0 ≤ nxtF ts (relR j pre) k by
            have h := hR.2.2
            rw [HL.out] at h
            unfold nxtF
            omega)
          have hv2 : ValidE ts U (pre ++ [(a, k)]) := ValidE.snoc pre a k HV.out hkl (by rw [HL.out]; exact hat) (by rw [hat] at hkU; omega) (fun i hi => by
            have h := hmin i (by rw [← HL.out]; exact hi)
            rw [hsc] at h
            simp only at h
            rw [HL.out, ← hat]
            exact h)
          have HV2 := Lib.hid hv2
          have HKU := Lib.hid hkU
          have hbd := (valid_bd HA.out hU HV.out hkl).1
          have cx : wr.cell? ⟨gx, k, none⟩ = some (.int .i64 ((cntE pre k : Nat) : Int)) := by
            rw [HRW.out.cellAt k (by omega)]
            simp [ints, relR_at hkj]
          obtain ⟨fn, tmps, assign, body, hy, hRd⟩ := HY.out pre a k wr HS.out hv2
          rw [hsc, hat]
          have HHAT := Lib.hid hat
          have HKL := Lib.hid hkl
          have hk0 : (0 : Int) ≤ (k : Int) := by omega
          have hkn : (k : Int) < (j : Int) := by omega
          have hkd : decide ((k : Int) < 0) = false := by simp
          clear hmin hsc hkU hR hat hv2 hkl
          dsimp only at hy ⊢
          gi_wp2
          refine hRd.mono ?_
          rintro e W3 ⟨rfl, hJ3, hk3⟩
          have hrow3 := own_kp HRW.out hk3
          have c3 : W3.cell? ⟨gx, k, none⟩ = some (.int .i64 ((cntE pre k : Nat) : Int)) := by
            rw [hrow3.cellAt k (by omega)]
            simp [ints, relR_at hkj]
          have f3 := hrow3.frozenAt k
          have HK3 := Lib.hid hk3
          have HJ3 := Lib.hid hJ3
          have HR3 := Lib.hid hrow3
          generalize hr : ((cntE pre k : Nat) : Int) = r at *
          have HRR := Lib.hid hr
          have hr0 : 0 ≤ r := by omega
          clear hk3 hJ3 hrow3 hr cx
          gi_wp2
          go_roundw
          case rel =>
            have hcells : ∃ cs, W3.heap[gx]? = some (.cells cs 3 (0, 0)) := by
              rcases HR3.out.2 with ⟨h1, _⟩ | ⟨g, cap, cur, hv, _, hh, _⟩
              · cases h1
              · have e : gx = g := by injection hv with hv; injection hv with hv; injection hv
                subst e
                exact ⟨_, hh⟩
            obtain ⟨s1, s2⟩ := HR3.out.stored k (.int .i64 (r + 1))
            refine ⟨pre ++ [(a, k)], HV2.out, HJ.out _ _ _ (some gx) HJ3.out s2 (fun x hx => by injection hx with hx; subst hx; exact ⟨hB, hcells⟩), ?_, (HK3.out.2.1 HBL.out).kept s2 (by simp; omega), (HK3.out.2.2.1 HBU.out).kept s2 (by simp; omega), ?_⟩
            · have e : (ints (relR j pre)).set k (.int .i64 (r + 1)) = ints (relR j (pre ++ [(a, k)])) := by
                rw [relR_snoc hkj, relR_get hkj, HRR.out]
                simp [ints]
              rw [e] at s1
              exact s1
            · exact (HK3.out.2.2.2.1 HR1.out).grown s2 (fun x hx => by have := HAb.out x hx (by omega); simp; omega)
          case measure =>
            obtain ⟨s1, s2⟩ := HR3.out.stored k (.int .i64 (r + 1))
            have e : (ints (relR j pre)).set k (.int .i64 (r + 1)) = ints ((relR j pre).set k ((relR j pre).getD k 0 + 1)) := by
              rw [relR_get hkj, HRR.out]
              simp [ints]
            rw [e] at s1
            rw [read_row s1, HM0.out]
            exact left_lt HA.out (by rw [relR_len, HL.out]) HKL.out HKU.out
end Go.Proofs.Ythnpeekeoaiaoaa.Task
