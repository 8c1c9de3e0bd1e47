/-
  A list of ints fitted to pins. Conditions: both lists read; the ints are ints; the pins are few.
-/
import Derived.Test.YthgjjclmepfbpaaDoorBlk1
import Derived.Test.YthgjjclmepfbpaaDoorRecs
import Derived.Test.YthgjjclmepfbpaaDoorWrp
import Derived.Test.YthgjjclmepfbpaaDoorMake
import Derived.Laws.CopyOwn
import Derived.BigQuiet
import Derived.Deep.RegionWith
import Derived.Deep.CutBlock
import Derived.Deep.DeepCutAuto
namespace Go.Proofs.YthgjjclmepfbpaaDoor.Blk
open Go.RowKit Go.Proofs.YthgjjclmepfbpaaDoor.W Go.Proofs.YthgjjclmepfbpaaDoor.Ints Go.Proofs.YthgjjclmepfbpaaDoor.Cell

def I64 (x : Int) : Prop := -9223372036854775808 ≤ x ∧ x ≤ 9223372036854775807
def rawF (l : List Int) (pl : List PN) : List Int := if l.length = pl.length then l else List.replicate pl.length 0
def fitF (l : List Int) (pl : List PN) : List Int := List.zipWith (fun p x => wrapF p.kind x) pl (rawF l pl)
theorem raw_len (l : List Int) (pl : List PN) : (rawF l pl).length = pl.length := by unfold rawF; split <;> simp_all
theorem fit_len (l : List Int) (pl : List PN) : (fitF l pl).length = pl.length := by simp [fitF, raw_len]
def midF (l : List Int) (pl : List PN) (k : Nat) : List Int := (fitF l pl).take k ++ (rawF l pl).drop k
theorem mid_len (l : List Int) (pl : List PN) {k : Nat} (hk : k ≤ pl.length) : (midF l pl k).length = pl.length := by
  simp [midF, fit_len, raw_len]
  omega
theorem mid_zero (l : List Int) (pl : List PN) : midF l pl 0 = rawF l pl := by simp [midF]
theorem mid_all (l : List Int) (pl : List PN) : midF l pl pl.length = fitF l pl := by
  have h1 := fit_len l pl
  have h2 := raw_len l pl
  unfold midF
  rw [← h1, List.take_length, List.drop_of_length_le (by omega), List.append_nil]
theorem mid_at {l : List Int} {pl : List PN} {k : Nat} {x : Int} (hx : (rawF l pl)[k]? = some x) : (midF l pl k)[k]? = some x := by
  have hk : k < (rawF l pl).length := (List.getElem?_eq_some_iff.1 hx).1
  rw [raw_len] at hk
  unfold midF
  rw [List.getElem?_append_right (by simp [fit_len]; omega)]
  simp [fit_len, List.getElem?_drop]
  rw [show k + (k - min k pl.length) = k from by omega]
  exact hx
theorem mid_set {l : List Int} {pl : List PN} {k : Nat} {x : Int} {p : PN} (hx : (rawF l pl)[k]? = some x) (hp : pl[k]? = some p) : (midF l pl k).set k (wrapF p.kind x) = midF l pl (k + 1) := by
  have hk : k < (rawF l pl).length := (List.getElem?_eq_some_iff.1 hx).1
  have hk2 : k < (fitF l pl).length := by rw [fit_len, ← raw_len l pl]; exact hk
  have hf : (fitF l pl)[k]? = some (wrapF p.kind x) := by
    unfold fitF
    rw [List.getElem?_zipWith, hp, hx]
  unfold midF
  have e : ((fitF l pl).take k).length = k := by simp; omega
  rw [List.set_append, if_neg (by omega), e, Nat.sub_self]
  rw [List.take_add_one, hf, List.drop_eq_getElem_cons hk, List.set_cons_zero]
  simp
theorem raw_bd {l : List Int} {pl : List PN} (h : ∀ x ∈ l, I64 x) : ∀ x ∈ rawF l pl, I64 x := by
  intro x hx
  unfold rawF at hx
  split at hx
  · exact h x hx
  · have := (List.mem_replicate.1 hx).2
    subst this
    unfold I64
    omega
theorem pinAt {w : World} {A : Option Addr} {n : Nat} {l : List PN} (h : Rd w 2 A n (pinV l)) {k : Nat} (hk : k < n) :
    ∃ b o p, A = some ⟨b, o, none⟩ ∧ l[k]? = some p ∧ b < w.heap.size ∧ w.cell? ⟨b, o + k * 2, none⟩ = some (.string p.name) ∧ w.cell? ⟨b, o + k * 2 + 1, none⟩ = some (.int .i64 p.kind) := by
  have hl := Rd.rec_len PN.len (by omega) h
  obtain ⟨b, o, e, hc⟩ := Rd.rec PN.len h (by omega)
  have ht : l[k]? = some l[k] := List.getElem?_eq_getElem (by omega)
  have c := hc k _ ht
  have c0 := c 0 _ rfl
  refine ⟨b, o, l[k], e, ht, lt_of_cell c0, c0, ?_⟩
  rw [Nat.add_assoc]
  exact c 1 _ rfl

set_option maxRecDepth 100000 in
set_option maxHeartbeats 6400000 in
theorem fitted_any (A : Option Addr) (n c : Nat) (l : List Int) (P : Option Addr) (m d : Nat) (pl : List PN) (w : World) (hr : Rd w 1 A n (ints l)) (hp : Rd w 2 P m (pinV pl)) (hm : m ≤ 100) (hb : ∀ x ∈ l, I64 x) :
    Calls Tryd.prog 27 #[.slice A n c, .slice P m d] w fun e w' => ∃ g, e = .returned (.slice (some ⟨g, 0, none⟩) m m) ∧ w'.ownsRow w.heap.size 3 1 (.slice (some ⟨g, 0, none⟩) m m) m (ints (fitF l pl)) ∧ Below w.heap.size w w' := by
  have hpl : pl.length = m := Rd.rec_len PN.len (by omega) hp
  have hll : l.length = n := by simpa [ints] using hr.len
  have HR := Lib.hid hr
  have HP := Lib.hid hp
  have HB := Lib.hid (raw_bd (pl := pl) hb)
  have HL := Lib.hid (And.intro hpl hll)
  have hmk := make_any m (by omega)
  clear hr hp hb hpl hll
  obtain ⟨g, hg⟩ : ∃ g, w.heap.size = g := ⟨_, rfl⟩
  go_enter Tryd.func27, Tryd.ntmps27
  go_upto_region 2 with fail
  have K0 : Hid (Blk (w.alloc (.cells (noughts m) 3)) g 3 (ints (List.replicate m 0)).toArray) := by
    rw [← noughts_list, ← hg]
    exact Blk.new w 3 (noughts m)
  have B0 : Hid (Below w.heap.size w (w.alloc (.cells (noughts m) 3))) := below_alloc _
  generalize World.alloc _ (Obj.cells (noughts m) _ _) = w1 at K0 B0 ⊢
  have HG := Lib.hid hg
  clear hg hmk
  have int1 : (Tryd.prog.info? 3).map (·.size) = some 1 := by kernel_rfl
  go_upto_region 2 with fail
  go_cut [14] from 20 to 36 (fun v wc => v = .bool (decide (n = m)) ∧ w1 = wc)
  case first =>
    by_cases e : n = m
    · subst e
      go_wp2
      go_meet
      exact ⟨by simp, rfl⟩
    · have e1 : ((n : Int) == (m : Int)) = false := by simp; omega
      have e2 : (n == m) = false := by simp; omega
      go_wp2
      go_meet
      exact ⟨by simp [e], rfl⟩
  case rest =>
    obtain ⟨rfl, rfl⟩ := hcut
    go_upto_if 14 with fail
    go_cut [] from 20 to 36 (fun wc => Hid (Blk wc g 3 (ints (rawF l pl)).toArray) ∧ Hid (Below w.heap.size w wc))
    case first =>
      by_cases e : n = m
      · subst e
        have hd : decide (n = n) = true := by simp
        have HRw : Hid (rawF l pl = l) := by
          obtain ⟨h1, h2⟩ := HL.out
          exact (if_pos (by omega) : rawF l pl = l)
        obtain ⟨X, hX⟩ : ∃ X, X = ints l := ⟨_, rfl⟩
        obtain ⟨Y, hY⟩ : ∃ Y, Y = ints (List.replicate n 0) := ⟨_, rfl⟩
        have hXn : X.length = n := by rw [hX, HR.out.len]; omega
        have hYn : Y.length = n := by rw [hY]; simp [ints]
        have HKK : Hid (w1.heap[g]? = some (.cells Y.toArray 3 (0, 0))) := by rw [hY]; exact K0.out
        have HX := Lib.hid hX
        have HY := Lib.hid hY
        have HXN := Lib.hid hXn
        have HYN := Lib.hid hYn
        clear hX hY hXn hYn
        have hgn : w.heap.size ≤ g := by rw [HG.out]; exact Nat.le_refl _
        go_wp2_with (with_reducible refine wpList_copy_splice rfl (.tmp 15) (.tmp 16) 31 31 rfl 3 Tryd.underlying31 int1 (some ⟨g, 0, none⟩) A n n n c rfl rfl g 0 Y 3 HKK.out X ?_ ?_ ?_ ?_ w.heap.size w B0.out hgn ?_)
        · first | (rw [HXN.out]; done) | (rw [HXN.out]; simp)
        · intro h
          rw [HXN.out] at h
          obtain ⟨b, o, rfl, hc⟩ := (HR.out.below B0.out).2 h
          have hadd : ∀ j, (⟨b, o, none⟩ : Addr).add j = ⟨b, o + j, none⟩ := by intro j; unfold Addr.add; split <;> simp_all
          exact ⟨_, rfl, fun j v hv => by rw [hadd]; exact hc j v (by rw [← HX.out]; exact hv)⟩
        · rw [HXN.out, HYN.out]; omega
        · intro v hv
          rw [HX.out] at hv
          simp [ints] at hv
          obtain ⟨x, _, rfl⟩ := hv
          rfl
        intro w2 hk2 hb2
        have KB := Lib.hid (And.intro hk2.out hb2)
        clear hk2 hb2
        go_wp2
        go_meet
        refine ⟨?_, KB.out.2⟩
        have h := KB.out.1
        have e2 : splice Y 0 X = ints (rawF l pl) := by
          have h1 := HXN.out
          have h2 := HYN.out
          rw [HRw.out, ← HX.out]
          unfold splice
          rw [List.take_zero, List.nil_append, List.drop_of_length_le (by omega), List.append_nil]
        rw [e2] at h
        exact h
      · have hd : decide (n = m) = false := by simp [e]
        have HRw : Hid (rawF l pl = List.replicate m 0) := by
          obtain ⟨h1, h2⟩ := HL.out
          show rawF l pl = _
          unfold rawF
          rw [if_neg (by omega), h1]
        go_wp2
        go_meet
        exact ⟨by rw [HRw.out]; exact K0.out, B0.out⟩
    case rest =>
      obtain ⟨K1, B1⟩ := hcut
      clear K0 B0 HR
      have hKm : Hid (Blk wc g 3 (ints (midF l pl 0)).toArray) := by rw [mid_zero]; exact K1
      clear K1
      go_wp2
      go_loopw [20] (fun v wr => ∃ k : Nat, k ≤ m ∧ v = .int .i64 k ∧ Hid (Blk wr g 3 (ints (midF l pl k)).toArray) ∧ Hid (Below w.heap.size w wr)) (fun v _ => m - (intOf v).toNat)
      case atStart => exact ⟨0, Nat.zero_le _, rfl, hKm, B1⟩
      case round =>
        clear hKm B1
        obtain ⟨k, hk, rfl, K2, B2⟩ := hrel
        by_cases hlt : k < m
        · obtain ⟨b, o, p, rfl, hpk, hbl, c0, c1⟩ := pinAt (HP.out.below B2.out) hlt
          obtain ⟨x, hx⟩ : ∃ x, (rawF l pl)[k]? = some x := ⟨_, List.getElem?_eq_getElem (by rw [raw_len, HL.out.1]; exact hlt)⟩
          have hxb := HB.out x (List.mem_of_getElem? hx)
          have hcell : wr.cell? ⟨g, k, none⟩ = some (.int .i64 x) := by
            rw [K2.out.cell]
            simp [ints, mid_at hx]
          have hfz : wr.frozen? ⟨g, k, none⟩ = false := K2.out.frozen k
          have HS : Hid (Blk (wr.setCell ⟨g, k, none⟩ (.int .i64 (wrapF p.kind x))).drew g 3 (ints (midF l pl (k + 1))).toArray) := by
            have h := (K2.out.put k (.int .i64 (wrapF p.kind x))).drewN 1
            have e : (ints (midF l pl k)).toArray.setIfInBounds k (.int .i64 (wrapF p.kind x)) = (ints (midF l pl (k + 1))).toArray := by
              rw [← mid_set hx hpk]
              simp [ints, List.map_set]
            rw [e] at h
            exact h
          have HBs : Hid (Below w.heap.size w (wr.setCell ⟨g, k, none⟩ (.int .i64 (wrapF p.kind x))).drew) := by
            exact below_drewN (Below.setCell B2.out (by rw [HG.out]; exact Nat.le_refl _) _) 1
          obtain ⟨hx1, hx2⟩ := hxb
          have hk0 : (0 : Int) ≤ (k : Int) := by omega
          have hkm : (k : Int) < (m : Int) := by omega
          have q0 : wr.drew.cell? ⟨b, o + k * 2 + 1, none⟩ = some (.int .i64 p.kind) := c1
          clear hx hpk hbl c0
          go_upto_region 7 with fail
          go_region_with (go_at_call 28; refine (Wrap_any _ _ _ hx1 hx2).mono ?_; rintro e w' ⟨rfl, rfl⟩; dsimp only)
          all_goals
            (clear K2 B2 c1 q0 hcell hfz hx1 hx2
             go_wp2
             go_roundw
             case rel => exact ⟨k + 1, by omega, by go_num, HS, HBs⟩
             case measure => simp [intOf]; omega)
        · have hkm : k = m := by omega
          have hE : Hid (Blk wr g 3 (ints (fitF l pl)).toArray) := by
            have h := K2.out
            rw [hkm, ← HL.out.1, mid_all] at h
            exact h
          have hkn : ¬ (k : Int) < (m : Int) := by omega
          clear K2
          go_wp2
          go_ret
          refine ⟨g, rfl, ?_, B2.out⟩
          have hfl := fit_len l pl
          rw [HL.out.1] at hfl
          have hi : (ints (fitF l pl)).length = m := by simp [ints, hfl]
          rw [HG.out]
          exact ⟨by rw [hi]; omega, .inr ⟨g, m, _, rfl, Nat.le_refl _, hE.out, Nat.le_refl _, by unfold maxLen; omega, by simp [hi], by rw [show m * 1 = (ints (fitF l pl)).length from by rw [hi]; omega, List.take_length]⟩⟩
end Go.Proofs.YthgjjclmepfbpaaDoor.Blk
