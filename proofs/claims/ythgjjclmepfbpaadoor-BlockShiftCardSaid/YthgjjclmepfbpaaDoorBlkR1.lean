/-
  The reference's taken: so many words, each wrapped into its kind. Conditions: the lists read; the ints are ints.
-/
import Derived.Test.YthgjjclmepfbpaaDoorBlk8
import Derived.Deep.RegionWith
namespace Go.Proofs.YthgjjclmepfbpaaDoor.Blk
open Go.RowKit Go.Proofs.YthgjjclmepfbpaaDoor.W Go.Proofs.YthgjjclmepfbpaaDoor.Ints Go.Proofs.YthgjjclmepfbpaaDoor.Cell Go.Proofs.YthgjjclmepfbpaaDoor.Num

theorem wrapF_zero (k : Int) : wrapF k 0 = 0 := by
  unfold wrapF
  split
  · rfl
  · split
    · rfl
    · split
      · rfl
      · split
        · rfl
        · split
          · rfl
          · rfl
theorem fit_zero {l : List Int} {pl : List PN} (h : ¬ l.length = pl.length) : fitF l pl = List.replicate pl.length 0 := by
  unfold fitF rawF
  rw [if_neg h]
  apply List.ext_getElem?
  intro i
  simp only [List.getElem?_zipWith, List.getElem?_replicate]
  cases hp : pl[i]? with
  | none =>
    have := List.getElem?_eq_none_iff.1 hp
    rw [if_neg (by omega)]
  | some p =>
    have := (List.getElem?_eq_some_iff.1 hp).1
    rw [if_pos this]
    simp [wrapF_zero]
/-- what taken has done behind k rounds -/
def tkM (l : List Int) (pl : List PN) (k : Nat) : List Int := if l.length = pl.length then (fitF l pl).take k ++ List.replicate (pl.length - k) 0 else List.replicate pl.length 0
theorem tk_zero (l : List Int) (pl : List PN) : tkM l pl 0 = List.replicate pl.length 0 := by unfold tkM; split <;> simp
theorem tk_all (l : List Int) (pl : List PN) : tkM l pl pl.length = fitF l pl := by
  unfold tkM
  split
  · have := fit_len l pl
    simp [List.take_of_length_le (Nat.le_of_eq this)]
  · rename_i h
    exact (fit_zero h).symm
theorem tk_set {l : List Int} {pl : List PN} {k : Nat} {x : Int} {p : PN} (h : l.length = pl.length) (hx : l[k]? = some x) (hp : pl[k]? = some p) : (tkM l pl k).set k (wrapF p.kind x) = tkM l pl (k + 1) := by
  have hk := (List.getElem?_eq_some_iff.1 hp).1
  have hf : (fitF l pl)[k]? = some (wrapF p.kind x) := by
    unfold fitF rawF
    rw [if_pos h, List.getElem?_zipWith, hp, hx]
  have hl := fit_len l pl
  unfold tkM
  rw [if_pos h, if_pos h]
  have e1 : ((fitF l pl).take k).length = k := by rw [List.length_take]; omega
  have e2 : List.replicate (pl.length - k) (0 : Int) = 0 :: List.replicate (pl.length - (k + 1)) 0 := by
    rw [show pl.length - k = (pl.length - (k + 1)) + 1 from by omega]
    rfl
  rw [e2, List.set_append_right _ _ (by omega), e1, Nat.sub_self, List.set_cons_zero]
  have e3 : (fitF l pl).take (k + 1) = (fitF l pl).take k ++ [wrapF p.kind x] := by
    rw [List.take_add_one, hf]
    rfl
  rw [e3, List.append_assoc]
  rfl
theorem tk_at {l : List Int} {pl : List PN} {k : Nat} (hk : k < pl.length) : ∃ y, (tkM l pl k)[k]? = some y := by
  refine ⟨_, List.getElem?_eq_getElem ?_⟩
  have hl := fit_len l pl
  unfold tkM
  split
  · simp
    omega
  · simpa using hk

set_option maxRecDepth 100000 in
set_option maxHeartbeats 6400000 in
theorem taken_any (A : Option Addr) (n c : Nat) (l : List Int) (P : Option Addr) (m d : Nat) (pl : List PN) (w : World) (hr : Rd w 1 A n (ints l)) (hp : Rd w 2 P m (pinV pl)) (hm : m ≤ 100) :
    Calls Tryd.prog 22 #[.slice A n c, .slice P m d] w fun e w' => ∃ g, e = .returned (.slice (some ⟨g, 0, none⟩) m m) ∧ w'.ownsRow w.heap.size 3 1 (.slice (some ⟨g, 0, none⟩) m m) m (ints (fitF l pl)) ∧ Below w.heap.size w w' := by
  have hpl : pl.length = m := Rd.rec_len PN.len (by omega) hp
  have hll : l.length = n := by simpa [ints] using hr.len
  have HR := Lib.hid hr
  have HP := Lib.hid hp
  have HL := Lib.hid (And.intro hpl hll)
  have hmk := make_any m (by omega)
  clear hr hp hpl hll
  obtain ⟨g, hg⟩ : ∃ g, w.heap.size = g := ⟨_, rfl⟩
  go_enter Tryd.func22, Tryd.ntmps22
  go_upto_region 2 with fail
  have K0 : Hid (Blk (w.alloc (.cells (noughts m) 3)) g 3 (ints (tkM l pl 0)).toArray) := by
    rw [tk_zero, HL.out.1, ← noughts_list, ← hg]
    exact Blk.new w 3 (noughts m)
  have B0 : Hid (Below w.heap.size w (w.alloc (.cells (noughts m) 3))) := below_alloc _
  generalize World.alloc _ (Obj.cells (noughts m) _ _) = w1 at K0 B0 ⊢
  have HG := Lib.hid hg
  clear hg hmk
  go_wp2
  go_loopw [6] (fun v wr => ∃ k : Nat, k ≤ m ∧ v = .int .i64 k ∧ Hid (Blk wr g 3 (ints (tkM l pl k)).toArray) ∧ Hid (Below w.heap.size w wr)) (fun v _ => m - (intOf v).toNat)
  case atStart => exact ⟨0, Nat.zero_le _, rfl, K0, B0⟩
  case round =>
    clear K0 B0
    obtain ⟨k, hk, rfl, K2, B2⟩ := hrel
    by_cases hlt : k < m
    · obtain ⟨b, o, p, rfl, hpk, hbl, c0, c1⟩ := pinAt (HP.out.below B2.out) hlt
      have hk0 : (0 : Int) ≤ (k : Int) := by omega
      have hkm : (k : Int) < (m : Int) := by omega
      by_cases e : n = m
      · obtain ⟨x, hx⟩ : ∃ x, l[k]? = some x := ⟨_, List.getElem?_eq_getElem (by rw [HL.out.2]; omega)⟩
        obtain ⟨b1, o1, rfl, hc1⟩ := (HR.out.below B2.out).2 (by omega)
        have cx : wr.cell? ⟨b1, o1 + k, none⟩ = some (.int .i64 x) := hc1 k _ (by simp [ints, hx])
        have hfz : wr.frozen? ⟨g, k, none⟩ = false := K2.out.frozen k
        obtain ⟨y, hy⟩ := tk_at (l := l) (pl := pl) (k := k) (by rw [HL.out.1]; exact hlt)
        have hcell : wr.cell? ⟨g, k, none⟩ = some (.int .i64 y) := by
          rw [K2.out.cell]
          simp [ints, hy]
        have HS : Hid (Blk (wr.setCell ⟨g, k, none⟩ (.int .i64 (wrapF p.kind x))).drew g 3 (ints (tkM l pl (k + 1))).toArray) := by
          have h := (K2.out.put k (.int .i64 (wrapF p.kind x))).drewN 1
          have e : (ints (tkM l pl k)).toArray.setIfInBounds k (.int .i64 (wrapF p.kind x)) = (ints (tkM l pl (k + 1))).toArray := by
            rw [← tk_set (by rw [HL.out.1, HL.out.2]; exact e) hx hpk]
            simp [ints, List.map_set]
          rw [e] at h
          exact h
        have HBs : Hid (Below w.heap.size w (wr.setCell ⟨g, k, none⟩ (.int .i64 (wrapF p.kind x))).drew) := by
          exact below_drewN (Below.setCell B2.out (by rw [HG.out]; exact Nat.le_refl _) _) 1
        have e1 : ((n : Int) == (m : Int)) = true := by simp; omega
        have hkn : (k : Int) < (n : Int) := by omega
        have q0 : wr.drew.cell? ⟨b, o + k * 2 + 1, none⟩ = some (.int .i64 p.kind) := c1
        have q1 : wr.drew.cell? ⟨b1, o1 + k, none⟩ = some (.int .i64 x) := cx
        clear hx hpk hbl c0 hc1 e hy
        go_upto_region 6 with fail
        go_region_with (go_at_call 23; refine (WrapR_any _ _ _).mono ?_; rintro e w' ⟨rfl, rfl⟩; dsimp only)
        all_goals
          (clear K2 B2 c1 q0 q1 cx hcell hfz
           go_wp2
           go_roundw
           case rel => exact ⟨k + 1, by omega, by go_num, HS, HBs⟩
           case measure => simp [intOf]; omega)
      · have e1 : ((n : Int) == (m : Int)) = false := by simp; omega
        have hst : tkM l pl k = tkM l pl (k + 1) := by
          obtain ⟨h1, h2⟩ := HL.out
          unfold tkM
          rw [if_neg (by omega), if_neg (by omega)]
        have K3 : Hid (Blk wr g 3 (ints (tkM l pl (k + 1))).toArray) := by rw [← hst]; exact K2
        clear hst K2 hpk hbl c0 c1 e
        go_wp2
        go_roundw
        case rel => exact ⟨k + 1, by omega, by go_num, K3, B2⟩
        case measure => simp [intOf]; omega
    · have hkm : k = m := by omega
      have hE : Hid (Blk wr g 3 (ints (fitF l pl)).toArray) := by
        have h := K2.out
        rw [hkm, ← HL.out.1, tk_all] at h
        exact h
      have hkn : ¬ (k : Int) < (m : Int) := by omega
      clear K2
      go_wp2
      go_ret
      refine ⟨g, rfl, ?_, B2.out⟩
      have hfl := fit_len l pl
      rw [HL.out.1] at hfl
      have hi : (ints (fitF l pl)).length = m := by simp [ints, hfl]
      rw [HG.out]
      exact ⟨by rw [hi]; omega, .inr ⟨g, m, _, rfl, Nat.le_refl _, hE.out, Nat.le_refl _, by unfold maxLen; omega, by simp [hi], by rw [show m * 1 = (ints (fitF l pl)).length from by rw [hi]; omega, List.take_length]⟩⟩
end Go.Proofs.YthgjjclmepfbpaaDoor.Blk
