/-
  How long jobs take, by the reference. Conditions: the list reads.
-/
import Derived.Test.YthnpeekeoaiaoaaTask5
import Derived.RegionTactic
import Derived.BigRegion
namespace Go.Proofs.Ythnpeekeoaiaoaa.Task
open Go.RowKit Go.Proofs.Ythnpeekeoaiaoaa.W Go.Proofs.Ythnpeekeoaiaoaa.Ints

def respAt (ts : List TD) (j : Nat) : Option Int := match ts[j]? with | some t => respF ts t j | none => none
def outTo (ts : List TD) (k : Nat) : List Int := (List.range k).map fun j => (respAt ts j).getD 0
def slowAt (ts : List TD) : Option Nat := (List.range ts.length).find? fun j => (respAt ts j).isNone
def respondF (ts : List TD) : List Int × (Int × Int) :=
  if (faultF ts).1 = 0 then (match slowAt ts with | some j => ([], (13, (j : Int))) | none => (outTo ts ts.length, (0, 0))) else ([], faultF ts)
def FreshT (w w' : World) (e : Ending) (F : List Int × (Int × Int)) : Prop :=
  ∃ A c, e = .returned (.tuple #[.slice A F.1.length c, faultV F.2]) ∧ w'.ownsRow w.heap.size 3 1 (.slice A F.1.length c) F.1.length (ints F.1) ∧ Below w.heap.size w w'
theorem fault_t {w w' : World} (f : Int × Int) (hb : Below w.heap.size w w') : FreshT w w' (.returned (.tuple #[.slice none 0 0, faultV f])) ([], f) :=
  ⟨none, 0, rfl, World.ownsRow_nil _ _ _ _, hb⟩
theorem fault_ok {ts : List TD} (h : (faultF ts).1 = 0) : 1 ≤ ts.length ∧ ts.length ≤ 16 ∧ ts.all TD.okB = true ∧ faultF ts = (0, 0) := by
  unfold faultF at h ⊢
  split at h
  · simp at h
  · rename_i h1
    rw [if_neg h1]
    split at h
    · simp at h
    · rename_i h2
      rw [if_neg h2]
      refine ⟨by omega, by omega, ?_, rfl⟩
      rw [List.all_eq_true]
      intro x hx
      cases hb : x.okB
      · exfalso
        apply h2
        unfold badAt
        split
        · omega
        · rename_i h3
          rw [List.findIdx?_eq_none_iff] at h3
          have := h3 x hx
          simp [hb] at this
      · rfl
theorem slow_some {ts : List TD} {k : Nat} (hk : k < ts.length) (h : respAt ts k = none) (hp : ∀ j, j < k → (respAt ts j).isSome = true) : slowAt ts = some k := by
  unfold slowAt
  rw [List.find?_eq_some_iff_getElem]
  refine ⟨by simp [h], k, by simpa using hk, by simp, fun j hj => ?_⟩
  have := hp j hj
  simp [Option.isSome_iff_ne_none] at this ⊢
  exact this
theorem slow_none {ts : List TD} (hp : ∀ j, j < ts.length → (respAt ts j).isSome = true) : slowAt ts = none := by
  unfold slowAt
  rw [List.find?_eq_none]
  intro j hj
  have := hp j (List.mem_range.1 hj)
  simp [Option.isSome_iff_ne_none] at this ⊢
  exact this
theorem out_next (ts : List TD) (k : Nat) {r : Int} (h : respAt ts k = some r) : outTo ts (k + 1) = outTo ts k ++ [r] := by simp [outTo, List.range_succ, h]
theorem out_len (ts : List TD) (k : Nat) : (outTo ts k).length = k := by simp [outTo]
theorem resp_bd {ts : List TD} {t : TD} {i : Nat} {r : Int} (h : respF ts t i = some r) (hd : 0 ≤ t.dead) : 1 ≤ r ∧ r ≤ t.dead := by
  unfold respF leastF at h
  rw [Option.map_eq_some_iff] at h
  obtain ⟨m, hm, rfl⟩ := h
  have := List.mem_range.1 (List.mem_of_find?_eq_some hm)
  omega

set_option maxHeartbeats 3200000 in
theorem RespondR_any (A : Option Addr) (n c : Nat) (ts : List TD) (w : World) (hr : Rd w 5 A n (tasksV ts)) :
    Calls Try.prog 8 #[.slice A n c] w fun e w' => FreshT w w' e (respondF ts) := by
  obtain ⟨i0, hi0, hz0, hz1, hz2⟩ := info_parts int_info
  have hl := Rd.rec_len TD.len (by omega) hr
  have HR := Lib.hid hr
  clear hr
  by_cases hf : (faultF ts).1 = 0
  · obtain ⟨n1, n16, hok, hff⟩ := fault_ok hf
    have hF : respondF ts = match slowAt ts with | some j => ([], (13, (j : Int))) | none => (outTo ts n, (0, 0)) := by rw [respondF, if_pos hf, hl]
    generalize hT : respondF ts = T at hF ⊢
    have HT := Lib.hid hF
    have HF := Lib.hid hff
    have HK := Lib.hid hok
    have HL := Lib.hid hl
    have h16 : n ≤ 16 := by omega
    have h1 : 1 ≤ n := by omega
    clear hT hF hff hok hl hf n1 n16
    go_enter Try.func8, Try.ntmps8
    go_wp2_with fail
    refine (Tasked_any A n c ts _ (HR.out.alloc _)).mono ?_
    rintro e w1 ⟨rfl, hb⟩
    rw [HF.out]
    obtain ⟨k1, hb, z1⟩ := call1 hb
    have K1 := Lib.hid (k1.alloc (.cells #[.int .i64 0, .int .i64 0, .int .i64 0] 26))
    have B1 := Lib.hid (hb.alloc (Nat.le_of_lt z1) (.cells #[.int .i64 0, .int .i64 0, .int .i64 0] 26))
    clear k1 hb
    go_wp2
    generalize hW : w1.alloc _ = W at *
    have hz : w.heap.size < W.heap.size := by rw [← hW]; simp; omega
    clear hW z1
    go_loopw [5, 6, 7] (fun v i _ wr => ∃ k : Nat, k ≤ n ∧ i = .int .i64 k ∧ ∃ B d, v = .slice B k d ∧ Hid (wr.ownsRow W.heap.size 3 1 (.slice B k d) k (ints (outTo ts k))) ∧ Hid (Below w.heap.size w wr) ∧ Hid (Blk wr w.heap.size 26 #[.int .i64 0, .int .i64 0, .int .i64 0]) ∧ Hid (W.heap.size ≤ wr.heap.size) ∧ Hid (∀ j, j < k → (respAt ts j).isSome = true)) (fun _ i _ _ => n - (intOf i).toNat)
    case atStart => exact ⟨0, Nat.zero_le _, rfl, _, _, rfl, World.ownsRow_nil _ _ _ _, B1, K1, Nat.le_refl _, fun j hj => by omega⟩
    case round =>
      clear K1 B1
      obtain ⟨k, hk, rfl, B, d, rfl, ho, hb, hkk, hzz, hp⟩ := hrel
      have c0' := hkk.out.cell
      have f0' := hkk.out.frozen
      have hbl0 := hkk.out.lt
      have hzz' := hzz.out
      by_cases hlt : k < n
      · obtain ⟨b, o, t, rfl, ht, hbl, c0, c1, c2, c3, c4⟩ := task_at (HR.out.below hb.out) hlt
        have hra : respAt ts k = respF ts t k := by simp only [respAt, ht]
        obtain ⟨p1, p2, p3, p4, p5, p6, _⟩ := ok_parts (get_ok HK.out ht)
        have HA := Lib.hid ht
        have HRA := Lib.hid hra
        clear ht hra c0 c1 c2 c3
        have hk0 : (0 : Int) ≤ (k : Int) := by omega
        have hkn : (k : Int) < (n : Int) := by omega
        go_wp2_with fail
        refine (Takes_any _ n c k ts t _ (HR.out.below hb.out) HA.out HK.out h16).mono ?_
        rintro e w2 ⟨rfl, hb2⟩
        have z2 := hb2.size
        have c4' : w2.cell? ⟨b, o + k * 5 + 4, none⟩ = some (.int .i64 t.dead) := (hb2.cell (p := ⟨b, o + k * 5 + 4, none⟩) hbl).trans c4
        have k2 := hkk.out.below hb2
        have o2 := own_below ho.out hb2
        have B2 := Lib.hid (hb.out.trans (hb2.mono hb.out.size))
        have K2 := Lib.hid k2
        have O2 := Lib.hid o2
        clear c0' f0' c4 ho hb hkk o2 hb2
        have c0' := k2.cell
        have f0' := k2.frozen
        clear k2
        cases hR : respF ts t k
        · have hfin : Hid (T = ([], (13, (k : Int)))) := by rw [Hid, HT.out, slow_some (by rw [HL.out]; exact hlt) (HRA.out.trans hR) hp.out]
          simp only [Option.getD_none]
          clear hR
          go_wp2
          refine bodyPost_ret (v := .tuple #[.slice none 0 0, faultV (13, k)]) ?_ rfl ?_
          · simp [results, Try.results8, go_sem, c0']
          · rw [hfin.out]
            refine fault_t _ ?_
            repeat' (first | (with_reducible exact B2.out) | (with_reducible refine Below.setCell ?_ ?_ _; rotate_left; (simp <;> omega)))
        · rename_i r
          obtain ⟨r1, r2⟩ := resp_bd hR (by omega)
          have HN := Lib.hid (out_next ts k (HRA.out.trans hR))
          have HS : Hid ((respAt ts k).isSome = true) := by rw [Hid, HRA.out, hR]; rfl
          simp only [Option.getD_some]
          clear hR
          go_wp2_with (at_builtin; refine wpList_append_rd _ rfl (.tmp 37) (.tmp 39) 23 rfl W.heap.size 3 i0 _ 1 8 Try.underlying23 hi0 hz0 hz1 hz2 rfl (by omega) _ k (ints (outTo ts k)) rfl (O2.out.alloc _) _ 1 1 [.int .i64 r] rfl (rd_new _ _ _) ?_ ?_ ?_ ?_ ?_)
          · simp [Value.oneCell']
          · unfold maxLen; omega
          · omega
          · simp; omega
          intro v' w3 ho3 hg3 hat3
          obtain ⟨B', d', rfl, _⟩ := own_shape ho3
          have hrow : ∀ g, (Value.slice B k d).ownBlock = some g → W.heap.size ≤ g := fun g hg => (O2.out.lt g hg).1
          have hb3 : Below w.heap.size w w3 := (B2.out.alloc (by omega) _).trans (Grow.below hg3 (by simp; omega) (fun g hg => by have := hrow g hg; omega))
          have k3 : Blk w3 w.heap.size 26 #[.int .i64 0, .int .i64 0, .int .i64 0] := (K2.out.alloc _).grown hg3 (fun e => by have := hrow _ e.symm; omega)
          have z3 := hg3.size
          simp only [World.size_alloc] at z3
          rw [show ints (outTo ts k) ++ [Value.int .i64 r] = ints (outTo ts (k + 1)) from by rw [HN.out]; simp] at ho3
          have HO3 := Lib.hid ho3
          have HB3 := Lib.hid hb3
          have HK3 := Lib.hid k3
          have HZ3 : Hid (W.heap.size ≤ w3.heap.size) := by rw [Hid]; omega
          have HP3 : Hid (∀ j, j < k + 1 → (respAt ts j).isSome = true) := fun j hj => by
            rcases Nat.lt_or_ge j k with h | h
            · exact hp.out j h
            · obtain rfl : j = k := by omega
              exact HS.out
          clear ho3 hg3 hat3 hb3 k3 hrow z3
          go_wp2
          go_roundw
          case rel => exact ⟨k + 1, by omega, by go_num, B', d', rfl, HO3, HB3, HK3, HZ3, HP3⟩
          case measure => simp [intOf]; omega
      · obtain rfl : k = n := by omega
        have hfin : Hid (T = (outTo ts k, (0, 0))) := by rw [Hid, HT.out, slow_none (by rw [HL.out]; exact hp.out)]
        go_wp2
        refine bodyPost_ret (v := .tuple #[.slice B k d, faultV (0, 0)]) ?_ rfl ?_
        · simp [results, Try.results8, go_sem, c0']
        · rw [hfin.out]
          refine ⟨B, d, by simp only [out_len], ?_, ?_⟩
          · simp only [out_len]
            refine own_weaken (base := W.heap.size) ?_ (by omega)
            repeat' (first | (with_reducible exact ho.out) | (with_reducible refine ownsRow_setCell_below ?_ ?_ _; rotate_left; (simp <;> omega)))
          · repeat' (first | (with_reducible exact hb.out) | (with_reducible refine Below.setCell ?_ ?_ _; rotate_left; (simp <;> omega)))
  · have hF : respondF ts = ([], faultF ts) := by rw [respondF, if_neg hf]
    rw [hF]
    have hf' : ((faultF ts).1 != 0) = true := by simp [hf]
    generalize hff : faultF ts = f at hf'
    have HF := Lib.hid hff
    clear hF hf hl hff
    go_enter Try.func8, Try.ntmps8
    go_wp2_with fail
    refine (Tasked_any A n c ts _ (HR.out.alloc _)).mono ?_
    rintro e w1 ⟨rfl, hb⟩
    rw [HF.out]
    obtain ⟨k1, hb, z1⟩ := call1 hb
    have c1 := k1.cell
    have f1 := k1.frozen
    have B1 := Lib.hid hb
    clear k1 hb
    go_wp2
    go_region
    all_goals go_wp2
    all_goals refine bodyPost_ret (v := .tuple #[.slice none 0 0, faultV f]) ?_ rfl ?_
    all_goals first | (simp [results, Try.results8, go_sem, c1, z1]; done) | skip
    all_goals refine fault_t _ (below_drewN ?_ 1)
    all_goals repeat' (first | (with_reducible exact B1.out) | (with_reducible refine Below.setCell ?_ ?_ _; rotate_left; (simp <;> omega)) | (with_reducible refine Below.alloc ?_ ?_ _; rotate_left; (simp <;> omega)))
end Go.Proofs.Ythnpeekeoaiaoaa.Task
