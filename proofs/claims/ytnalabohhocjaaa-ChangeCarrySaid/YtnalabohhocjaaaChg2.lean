/-
  The reference's Carriable and known. Conditions: the lists read.
-/
import Derived.Test.YtnalabohhocjaaaChg1
import Derived.Test.YtnalabohhocjaaaMem2
import Derived.BigQuiet
import Derived.Deep.DeepCutAuto
namespace Go.Proofs.Ytnalabohhocjaaa.Chg
open Go.RowKit Go.Proofs.Ytnalabohhocjaaa.W Go.Proofs.Ytnalabohhocjaaa.Ints Go.Proofs.Ytnalabohhocjaaa.Cod

abbrev SL.val (s : SL) : Value := .agg #[.string s.path, .int .i64 s.kind, .int .i64 s.at_, .int .i64 s.len, .bool s.keep, .int .i64 s.role]
abbrev slC (s : SL) : Array Value := #[.string s.path, .int .i64 s.kind, .int .i64 s.at_, .int .i64 s.len, .bool s.keep, .int .i64 s.role]
theorem all_next {α : Type} {f : α → Bool} {l : List α} {k : Nat} {x : α} (h : l[k]? = some x) (hk : (l.take k).all f = true) (hx : f x = true) : (l.take (k + 1)).all f = true := by
  rw [List.take_add_one, h]
  simp [hk, hx]
theorem all_stop {α : Type} {f : α → Bool} {l : List α} {k : Nat} {x : α} (h : l[k]? = some x) (hx : f x = false) : l.all f = false := by
  rw [List.all_eq_false]
  exact ⟨x, List.mem_of_getElem? h, by simp [hx]⟩
theorem known_more {l : List SL} {s t : SL} {k : Nat} (h : ∀ (j : Nat) (u : SL), j < k → l[j]? = some u → alike u s = false) (ht : l[k]? = some t) (ha : alike t s = false) : ∀ (j : Nat) (u : SL), j < k + 1 → l[j]? = some u → alike u s = false := by
  intro j u hj hu
  by_cases h1 : j < k
  · exact h j u h1 hu
  · obtain rfl : j = k := by omega
    obtain rfl := Option.some.inj (hu.symm.trans ht)
    exact ha
set_option maxRecDepth 100000 in
set_option maxHeartbeats 12800000 in
theorem Carriable_any (v : PV) (p : PD) (w : World) (hr : PRd w v p) (hok : p.ok) :
    Calls Try.prog 13 #[v.val] w fun e w' => e = .returned (.bool (carrB p)) ∧ Below w.heap.size w w' := by
  have HR := Lib.hid hr
  have HOK := Lib.hid hok
  have q1 := hr.fl
  have q2 := hr.sl
  obtain ⟨vk, vname, fA, fn, fc, sA, sn, sc, tA, tn, tc⟩ := v
  dsimp only at q1 q2
  obtain ⟨R, hR⟩ : ∃ R, carrB p = R := ⟨_, rfl⟩
  rw [hR]
  have HV := Lib.hid hR
  have HQ := Lib.hid (And.intro q1 q2)
  clear hr hok q1 q2 hR
  go_enter Try.func13, Try.ntmps13
  go_upto_region 1 with fail
  have M0 := Lib.hid ((Mem.start w).alloc 27 #[.int .i64 vk, .string vname, .slice fA fn fc, .slice sA sn sc, .slice tA tn tc])
  generalize World.alloc _ _ = w1 at M0 ⊢
  generalize w.heap.size = gb at M0 ⊢
  have x2 : w1.cell? ⟨gb, 2, none⟩ = some (.slice fA fn fc) := M0.out.cellK 0 rfl 2
  have x3 : w1.cell? ⟨gb, 3, none⟩ = some (.slice sA sn sc) := M0.out.cellK 0 rfl 3
  by_cases h1 : 20000 < fn
  · have e1 : decide (20000 < (fn : Int)) = true := decide_eq_true (by omega)
    have e2 : R = false := by rw [← HV.out]; simp [carrB, HQ.out.1]; intro h; omega
    have B0 := Lib.hid M0.out.bel
    clear M0
    go_wp2
    go_ret
    exact ⟨by first | rfl | (rw [e2]; rfl), B0.out⟩
  · have e1 : decide (20000 < (fn : Int)) = false := decide_eq_false (by omega)
    by_cases h2 : 20000 < sn
    · have e2 : decide (20000 < (sn : Int)) = true := decide_eq_true (by omega)
      have e3 : R = false := by rw [← HV.out]; simp [carrB, HQ.out.2]; intro _ h; omega
      have B0 := Lib.hid M0.out.bel
      clear M0
      go_wp2
      go_ret
      exact ⟨by first | rfl | (rw [e3]; rfl), B0.out⟩
    · have e2 : decide (20000 < (sn : Int)) = false := decide_eq_false (by omega)
      go_wp2
      clear x2 x3
      go_loopw [4] (fun v4 wr => ∃ k : Nat, k ≤ sn ∧ v4 = .int .i64 k ∧ Hid ((p.slots.take k).all (slotB fn) = true) ∧ Hid (Mem w wr [⟨gb, 27, #[.int .i64 vk, .string vname, .slice fA fn fc, .slice sA sn sc, .slice tA tn tc]⟩] [])) (fun v4 _ => sn - (intOf v4).toNat)
      case atStart => exact ⟨0, Nat.zero_le _, rfl, by simp [Hid], M0⟩
      case round =>
        clear M0
        obtain ⟨k, hk, rfl, HA, M0⟩ := hrel
        have x3 : wr.cell? ⟨gb, 3, none⟩ = some (.slice sA sn sc) := M0.out.cellK 0 rfl 3
        by_cases hlt : k < sn
        · obtain ⟨b, o, s, rfl, hs, hbl, c0, c1, c2, c3, c4, c5⟩ := slot_at (HR.out.slots.below M0.out.bel) hlt
          have hk0 : (0 : Int) ≤ (k : Int) := by omega
          have hkn : (k : Int) < (sn : Int) := by omega
          have HS := Lib.hid hs
          obtain ⟨o1, o2, o3, o4, o5⟩ := HOK.out.2.2.2.1 s (List.mem_of_getElem? hs)
          obtain ⟨o41, o42⟩ := o4
          clear hs o1 o2 o3 o5
          go_upto_region 8 with fail
          have M1 := Lib.hid (M0.out.alloc 50 (slC s))
          clear M0 x3 hbl c0 c1 c2 c3 c4 c5
          generalize World.alloc _ _ = w2 at M1 ⊢
          generalize wr.heap.size = gs at M1 ⊢
          have y2 : w2.cell? ⟨gs, 2, none⟩ = some (.int .i64 s.at_) := M1.out.cellK 0 rfl 2
          have y3 : w2.cell? ⟨gs, 3, none⟩ = some (.int .i64 s.len) := M1.out.cellK 0 rfl 3
          by_cases g1 : s.len < 0
          · have e3 : R = false := by
              have hsf : slotB fn s = false := by simp [slotB]; omega
              have h3 := HQ.out.1
              have h4 := all_stop HS.out hsf
              rw [← HV.out]
              simp [carrB, h3, h4]
            have B0 := Lib.hid M1.out.bel
            clear M1
            go_wp2
            go_ret
            exact ⟨by first | rfl | (rw [e3]; rfl), B0.out⟩
          · skip
            by_cases g2 : (fn : Int) < s.len
            · have e3 : R = false := by
                have hsf : slotB fn s = false := by simp [slotB]; omega
                have h3 := HQ.out.1
                have h4 := all_stop HS.out hsf
                rw [← HV.out]
                simp [carrB, h3, h4]
              have B0 := Lib.hid M1.out.bel
              clear M1
              go_wp2
              go_ret
              exact ⟨by first | rfl | (rw [e3]; rfl), B0.out⟩
            · skip
              by_cases g3 : s.at_ < 0
              · have e3 : R = false := by
                  have hsf : slotB fn s = false := by simp [slotB]; omega
                  have h3 := HQ.out.1
                  have h4 := all_stop HS.out hsf
                  rw [← HV.out]
                  simp [carrB, h3, h4]
                have B0 := Lib.hid M1.out.bel
                clear M1
                go_wp2
                go_ret
                exact ⟨by first | rfl | (rw [e3]; rfl), B0.out⟩
              · skip
                by_cases g4 : (fn : Int) ≤ s.at_
                · have e3 : R = false := by
                    have hsf : slotB fn s = false := by simp [slotB]; omega
                    have h3 := HQ.out.1
                    have h4 := all_stop HS.out hsf
                    rw [← HV.out]
                    simp [carrB, h3, h4]
                  have B0 := Lib.hid M1.out.bel
                  clear M1
                  go_wp2
                  go_ret
                  exact ⟨by first | rfl | (rw [e3]; rfl), B0.out⟩
                · skip
                  have hw : IntKind.i64.wrap (s.at_ + s.len) = s.at_ + s.len := by simp [IntKind.wrap, IntKind.bits, IntKind.signed]; omega
                  by_cases g5 : (fn : Int) < s.at_ + s.len
                  · have e3 : R = false := by
                      have hsf : slotB fn s = false := by simp [slotB]; omega
                      have h3 := HQ.out.1
                      have h4 := all_stop HS.out hsf
                      rw [← HV.out]
                      simp [carrB, h3, h4]
                    have B0 := Lib.hid M1.out.bel
                    clear M1
                    go_wp2
                    go_ret
                    exact ⟨by first | rfl | (rw [e3]; rfl), B0.out⟩
                  · have hsf : slotB fn s = true := by simp [slotB]; omega
                    have HA2 := Lib.hid (all_next HS.out HA.out hsf)
                    have M2 := Lib.hid (M1.out.delK 0)
                    clear M1 HA
                    go_wp2
                    go_roundw
                    case rel => exact ⟨k + 1, by omega, by go_num, HA2, M2⟩
                    case measure => simp [intOf]; omega
        · have hkn : k = sn := by omega
          have hk1 : ¬ (k : Int) < (sn : Int) := by omega
          have e3 : R = true := by
            have h := HA.out
            rw [hkn, ← HQ.out.2, List.take_length] at h
            have h3 := HQ.out.1
            have h4 := HQ.out.2
            rw [← HV.out]
            simp [carrB, h3, h4, h]
            omega
          have B0 := Lib.hid M0.out.bel
          clear M0
          go_wp2
          go_ret
          exact ⟨by first | rfl | (rw [e3]; rfl), B0.out⟩

set_option maxRecDepth 100000 in
set_option maxHeartbeats 12800000 in
theorem known_any (A : Option Addr) (n c : Nat) (l : List SL) (s : SL) (w : World) (hr : Rd w 6 A n (slotsV l)) (hn : n * 56 ≤ 140737488351232) :
    Calls Try.prog 14 #[.slice A n c, SL.val s] w fun e w' => e = .returned (.int .i64 (knownI l s)) ∧ Below w.heap.size w w' := by
  have HR := Lib.hid hr
  have HL : Hid (l.length = n) := Rd.rec_len SL.size (by omega) hr
  obtain ⟨R, hR⟩ : ∃ R, knownI l s = R := ⟨_, rfl⟩
  rw [hR]
  have HV := Lib.hid hR
  clear hr hR
  obtain ⟨spath, skind, sat, slen, skeep, srole⟩ := s
  go_enter Try.func14, Try.ntmps14
  go_upto_region 1 with fail
  have M0 := Lib.hid ((Mem.start w).alloc 50 #[.string spath, .int .i64 skind, .int .i64 sat, .int .i64 slen, .bool skeep, .int .i64 srole])
  generalize World.alloc _ _ = w1 at M0 ⊢
  generalize w.heap.size = gs at M0 ⊢
  go_wp2
  go_loopw [5] (fun v5 wr => ∃ k : Nat, k ≤ n ∧ v5 = .int .i64 k ∧ Hid (∀ (j : Nat) (u : SL), j < k → l[j]? = some u → alike u ⟨spath, skind, sat, slen, skeep, srole⟩ = false) ∧ ∃ q, wr = w1.drewN q) (fun v5 _ => n - (intOf v5).toNat)
  case atStart => exact ⟨0, Nat.zero_le _, rfl, fun j u h => by omega, 0, rfl⟩
  case round =>
    obtain ⟨k, hk, rfl, HA, q, rfl⟩ := hrel
    by_cases hlt : k < n
    · obtain ⟨b, o, t, rfl, ht, hbl, c0, c1, c2, c3, c4, c5⟩ := slot_at (HR.out.below M0.out.bel) hlt
      have y0 : w1.cell? ⟨gs, 0, none⟩ = some (.string spath) := M0.out.cellK 0 rfl 0
      have y1 : w1.cell? ⟨gs, 1, none⟩ = some (.int .i64 skind) := M0.out.cellK 0 rfl 1
      have y3 : w1.cell? ⟨gs, 3, none⟩ = some (.int .i64 slen) := M0.out.cellK 0 rfl 3
      have hk0 : (0 : Int) ≤ (k : Int) := by omega
      have hkn : (k : Int) < (n : Int) := by omega
      have HT := Lib.hid ht
      obtain ⟨pb, hpb⟩ : ∃ x, (t.path.toList == spath.toList) = x := ⟨_, rfl⟩
      obtain ⟨kb, hkb⟩ : ∃ x, (t.kind == skind) = x := ⟨_, rfl⟩
      obtain ⟨lb, hlb⟩ : ∃ x, (t.len == slen) = x := ⟨_, rfl⟩
      have HAL : Hid (alike t ⟨spath, skind, sat, slen, skeep, srole⟩ = (pb && (kb && lb))) := by
        rw [Hid]
        unfold alike
        rw [hpb, hkb, hlb]
      clear ht c2 c4 c5
      go_upto_region 4 with fail
      cases pb
      · go_quiet (fail)
        go_wp2
        go_roundw
        case rel => exact ⟨k + 1, by omega, by go_num, known_more HA.out HT.out (HAL.out.trans rfl), _, rfl⟩
        case measure => simp [intOf]; omega
      · cases kb
        · go_quiet (fail)
          go_wp2
          go_roundw
          case rel => exact ⟨k + 1, by omega, by go_num, known_more HA.out HT.out (HAL.out.trans rfl), _, rfl⟩
          case measure => simp [intOf]; omega
        · cases lb
          · go_quiet (fail)
            go_wp2
            go_roundw
            case rel => exact ⟨k + 1, by omega, by go_num, known_more HA.out HT.out (HAL.out.trans rfl), _, rfl⟩
            case measure => simp [intOf]; omega
          · have e3 : R = (k : Int) := by
              rw [← HV.out]
              unfold knownI
              rw [known_step HT.out HA.out (HAL.out.trans rfl)]
            have B0 := Lib.hid M0.out.bel
            clear M0
            go_quiet (fail)
            go_wp2
            go_ret
            exact ⟨by first | rfl | (rw [e3]; rfl), below_drewN (below_drewN B0.out _) _⟩
    · have hk1 : ¬ (k : Int) < (n : Int) := by omega
      have e3 : R = -1 := by
        rw [← HV.out]
        unfold knownI
        rw [known_none (fun j u hu => HA.out j u (by have := (List.getElem?_eq_some_iff.1 hu).1; rw [HL.out] at this; omega) hu)]
      have B0 := Lib.hid M0.out.bel
      clear M0
      go_wp2
      go_ret
      exact ⟨by first | rfl | (rw [e3]; rfl), below_drewN B0.out _⟩
end Go.Proofs.Ytnalabohhocjaaa.Chg
