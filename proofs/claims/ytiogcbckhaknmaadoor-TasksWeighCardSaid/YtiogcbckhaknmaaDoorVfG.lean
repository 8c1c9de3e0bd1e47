/-
  The program's levels. Conditions: the text reads, within the reach; its instructions may be, its loops and jumps too.
-/
import Derived.Test.YtiogcbckhaknmaaDoorVfF
namespace Go.Proofs.YtiogcbckhaknmaaDoor.Vf
open Go.RowKit Go.Proofs.YtiogcbckhaknmaaDoor.W Go.Proofs.YtiogcbckhaknmaaDoor.Ints Go.Proofs.YtiogcbckhaknmaaDoor.Cod Go.Proofs.YtiogcbckhaknmaaDoor.Cell

def ups (H : List Int) : List Int := H.map (· + 1)
theorem ups_len (H : List Int) : (ups H).length = H.length := by simp [ups]
theorem ups_at {H : List Int} {t : Nat} (h : t < H.length) : hAt (ups H) (t : Int) = hAt H (t : Int) + 1 := by
  unfold hAt ups
  simp [List.getD_eq_getElem?_getD, h]
theorem ups_set (H : List Int) (t : Nat) (v : Int) : ups (H.set t v) = (ups H).set t (v + 1) := by simp [ups, List.map_set]
theorem hAt_other {H : List Int} {t s : Nat} {h : Int} (e : t ≠ s) : hAt (H.set t h) (s : Int) = hAt H (s : Int) := by
  unfold hAt
  rw [List.getD_eq_getElem?_getD, List.getD_eq_getElem?_getD, Int.toNat_natCast, List.getElem?_set_ne e]
theorem hAt_same {H : List Int} {t : Nat} {h : Int} (ht : t < H.length) : hAt (H.set t h) (t : Int) = h := by
  unfold hAt
  rw [List.getD_eq_getElem?_getD, Int.toNat_natCast, List.getElem?_set_self ht]
  rfl
def meetF (H : List Int) (t : Nat) (h : Int) : List Int := if hAt H (t : Int) < 0 then H.set t h else H
theorem set_self {H : List Int} {t : Nat} {h : Int} (ht : t < H.length) (e : hAt H (t : Int) = h) : H.set t h = H := by
  unfold hAt at e
  simp [List.getD_eq_getElem?_getD, ht] at e
  rw [← e]
  exact List.set_getElem_self ht
theorem meet_ok {H : List Int} {t : Nat} {h : Int} (ht : t < H.length) (hk : hAt H (t : Int) < 0 ∨ hAt H (t : Int) = h) : meetF H t h = H.set t h := by
  unfold meetF
  split
  · rfl
  · rename_i h1
    exact (set_self ht (hk.resolve_left h1)).symm
theorem up_cell {w : World} {B : Nat} {e : TypeId} {g n c : Nat} {H : List Int} (h : w.ownsRow B e 1 (.slice (some ⟨g, 0, none⟩) n c) n (ints (ups H))) (hl : H.length = n) {t : Nat} (ht : t < n) : w.cell? ⟨g, t, none⟩ = some (.int .i64 (hAt H (t : Int) + 1)) := by
  have h1 := own_at h ht
  rw [ups_at (by omega)] at h1
  exact h1
set_option maxRecDepth 100000 in
set_option maxHeartbeats 3200000 in
theorem meet_any {w0 w : World} {Ks : List Box} {Os : List Row} (gq gh m : Nat) (H : List Int) (t : Nat) (h : Int) (hM : Mem w0 w (⟨gq, 25, #[.slice (some ⟨gh, 0, none⟩) m m]⟩ :: Ks) (⟨3, 1, some ⟨gh, 0, none⟩, m, m, ints (ups H)⟩ :: Os)) (hl : H.length = m) (hb : HBd H) (ht : t < m) (_hh : 0 ≤ h) (_hm : m ≤ 200000) :
    Calls Tryd.prog 40 #[.int .i64 (t : Int), .int .i64 (h + 1), .pointer (some ⟨gq, 0, none⟩)] w fun e w' => e = .returned (.bool (decide (hAt H (t : Int) < 0 ∨ hAt H (t : Int) = h))) ∧ Mem w0 w' (⟨gq, 25, #[.slice (some ⟨gh, 0, none⟩) m m]⟩ :: Ks) (⟨3, 1, some ⟨gh, 0, none⟩, m, m, ints (ups (meetF H t h))⟩ :: Os) := by
  have M0 := Lib.hid hM
  have x0 : w.cell? ⟨gq, 0, none⟩ = some (.slice (some ⟨gh, 0, none⟩) m m) := hM.cellK 0 rfl 0
  have c0 := up_cell (hM.rowO 0 rfl) hl ht
  obtain ⟨b1, b2⟩ := hbd_at hb (t : Int)
  have fz := (hM.rowO 0 rfl).frozenAt t
  have ht0 : (0 : Int) ≤ (t : Int) := by omega
  have htm : (t : Int) < (m : Int) := by omega
  generalize hv : hAt H (t : Int) = v at c0 b1 b2
  have HV := Lib.hid hv
  clear hM hv
  by_cases hneg : v < 0
  · have e0 : v = -1 := by omega
    have hd : Hid (decide (v < 0 ∨ v = h) = true) := Lib.hid (decide_eq_true (.inl hneg))
    have MS : Hid (Mem w0 (w.setCell ⟨gh, t, none⟩ (.int .i64 (h + 1))) (⟨gq, 25, #[.slice (some ⟨gh, 0, none⟩) m m]⟩ :: Ks) (⟨3, 1, some ⟨gh, 0, none⟩, m, m, ints (ups (meetF H t h))⟩ :: Os)) := Lib.hid (by
      have h1 := M0.out.put (j := t) (.int .i64 (h + 1))
      rw [ints_set, ← ups_set] at h1
      have h2 : meetF H t h = H.set t h := by unfold meetF; rw [HV.out, if_pos hneg]
      rw [h2]
      exact h1)
    have hgne : gq ≠ gh := fun e => M0.out.dis _ (List.mem_cons_self ..) _ (List.mem_cons_self ..) _ rfl (by rw [e])
    subst e0
    have hz : (-1 : Int) + 1 = 0 := rfl
    have c0' : w.cell? ⟨gh, t, none⟩ = some (.int .i64 0) := c0
    have y0 : (w.setCell ⟨gh, t, none⟩ (.int .i64 (h + 1))).cell? ⟨gq, 0, none⟩ = some (.slice (some ⟨gh, 0, none⟩) m m) := MS.out.cellK 0 rfl 0
    have y1 : (w.setCell ⟨gh, t, none⟩ (.int .i64 (h + 1))).cell? ⟨gh, t, none⟩ = some (.int .i64 (h + 1)) := by
      have h2 : meetF H t h = H.set t h := by unfold meetF; rw [HV.out, if_pos (by omega)]
      have h3 := up_cell (MS.out.rowO 0 rfl) (by rw [h2, List.length_set]; exact hl) ht
      rw [h2, hAt_same (by omega)] at h3
      exact h3
    clear c0 hneg M0 hz
    go_enter Tryd.func40, Tryd.ntmps40
    go_wp2
    go_ret
    exact ⟨ret_bool (by rw [hd.out]), MS.out⟩
  · have hd : Hid (decide (v < 0 ∨ v = h) = (v + 1 == h + 1)) := Lib.hid (by
      rw [Bool.eq_iff_iff]
      simp
      omega)
    have hz : ((v + 1 : Int) == 0) = false := by simp; omega
    have MS : Hid (Mem w0 w (⟨gq, 25, #[.slice (some ⟨gh, 0, none⟩) m m]⟩ :: Ks) (⟨3, 1, some ⟨gh, 0, none⟩, m, m, ints (ups (meetF H t h))⟩ :: Os)) := Lib.hid (by
      have h2 : meetF H t h = H := by unfold meetF; rw [HV.out, if_neg hneg]
      rw [h2]
      exact M0.out)
    clear hneg M0
    go_enter Tryd.func40, Tryd.ntmps40
    go_wp2
    go_ret
    exact ⟨ret_bool (by rw [hd.out]), MS.out⟩
end Go.Proofs.YtiogcbckhaknmaaDoor.Vf
