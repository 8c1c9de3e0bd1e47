/-
  The reference's digits from a place on: what they say, where they end. No conditions but that the text fits a machine.
-/
import Derived.Test.YtckjnlonijodcaaDoorTx2
namespace Go.Proofs.YtckjnlonijodcaaDoor.Tx
open Go.RowKit Go.Proofs.YtckjnlonijodcaaDoor.W Go.Proofs.YtckjnlonijodcaaDoor.Num Go.Proofs.YtckjnlonijodcaaDoor.Cell

def lastU (s : ByteArray) (a : Nat) : Bool := decide ((s.data.toList.getD (a - 1) 0).toNat = 95)
abbrev tw (base : Nat) (s : ByteArray) (k : Nat) : List UInt8 := (s.data.toList.drop k).takeWhile (isD base)
structure RunI (base : Nat) (s : ByteArray) (E : Nat) (D : Option Nat) (k N C : Nat) (O : Bool) : Prop where
  stop : k + (tw base s k).length = E
  ok : O = true → digF base (tw base s k) N (decide (0 < C) && !lastU s k) = D
  bad : O = false → D = none
theorem getD_byte (s : ByteArray) (k : Nat) (h : k < s.size) : s.data.toList.getD k 0 = s[k] := by
  rw [List.getD_eq_getElem?_getD, List.getElem?_eq_getElem (by simpa using h)]
  rfl
theorem lastU_succ (s : ByteArray) (k : Nat) (h : k < s.size) : lastU s (k + 1) = decide (s[k].toNat = 95) := by
  unfold lastU
  rw [Nat.add_sub_cancel, getD_byte s k h]
theorem runI_digit {base : Nat} (hb : base ≤ 16) {s : ByteArray} {E : Nat} {D : Option Nat} {k N C : Nat} {O : Bool} (h : RunI base s E D k N C O) (hk : k < s.size) {c : UInt8} (hc : s[k] = c) {y : Nat} (hy : dgV c = y) (hl : y < base) : RunI base s E D (k + 1) (N * base + y) (C + 1) O := by
  have hd := drop_byte s k hk
  rw [hc] at hd
  have hi : isD base c = true := by simp [isD, hy, hl]
  have ht : tw base s k = c :: tw base s (k + 1) := by
    unfold tw
    rw [hd, List.takeWhile_cons, hi]
    rfl
  have hn : ¬ c.toNat = 95 := by
    intro e
    have : dgV c = 99 := by simp [dgV, e]
    omega
  refine ⟨?_, fun ho => ?_, h.bad⟩
  · have := h.stop
    rw [ht, List.length_cons] at this
    omega
  · have := h.ok ho
    rw [ht, dig_step, if_neg (fun e => hn e.1), hy, if_pos hl] at this
    rw [lastU_succ s k hk, hc]
    simpa [hn] using this
theorem runI_under {base : Nat} {s : ByteArray} {E : Nat} {D : Option Nat} {k N C : Nat} {O G : Bool} (h : RunI base s E D k N C O) (hk : k < s.size) {c : UInt8} (hc : s[k] = c) (h95 : c.toNat = 95) (hG : (decide (0 < C) && !lastU s k) = G) (hb : base ≤ 16) : RunI base s E D (k + 1) N C (O && G) := by
  have hd := drop_byte s k hk
  rw [hc] at hd
  have hi : isD base c = true := by simp [isD, h95]
  have ht : tw base s k = c :: tw base s (k + 1) := by
    unfold tw
    rw [hd, List.takeWhile_cons, hi]
    rfl
  have hno : dgV c = 99 := by simp [dgV, h95]
  have hl : lastU s (k + 1) = true := by rw [lastU_succ s k hk, hc]; simp [h95]
  refine ⟨?_, fun ho => ?_, fun ho => ?_⟩
  · have := h.stop
    rw [ht, List.length_cons] at this
    omega
  · simp only [Bool.and_eq_true] at ho
    have := h.ok ho.1
    rw [ht, dig_step, hG, if_pos ⟨h95, ho.2⟩] at this
    rw [hl]
    simpa using this
  · cases O
    · exact h.bad rfl
    · have hg : G = false := by simpa using ho
      have := h.ok rfl
      rw [ht, dig_step, hG, hg, if_neg (by simp), if_neg (by omega)] at this
      exact this.symm
theorem tw_stop {base : Nat} {s : ByteArray} {k : Nat} (hk : k < s.size) {c : UInt8} (hc : s[k] = c) (h : isD base c = false) : tw base s k = [] := by
  unfold tw
  rw [drop_byte s k hk, hc, List.takeWhile_cons, h]
  rfl
theorem tw_end {base : Nat} {s : ByteArray} {k : Nat} (hk : ¬ k < s.size) : tw base s k = [] := by
  unfold tw
  rw [List.drop_of_length_le (by rw [size_data]; omega)]
  rfl
theorem runI_end {base : Nat} {s : ByteArray} {E : Nat} {D : Option Nat} {k N C : Nat} {O : Bool} (h : RunI base s E D k N C O) (ht : tw base s k = []) : E = k ∧ (O = true → D = if (decide (0 < C) && !lastU s k) = true then some N else none) ∧ (O = false → D = none) := by
  refine ⟨?_, fun ho => ?_, h.bad⟩
  · have := h.stop
    rw [ht] at this
    exact this.symm
  · have := h.ok ho
    rw [ht] at this
    rw [← this]
    rfl
theorem far_next {N n base d : Nat} {x : Int} (hn : min N farN = n) (hb' : base ≤ 16) (hd : d ≤ 99) (hx : x = (d : Int)) :
    wrap64 (wrap64 ((n : Int) * (base : Int)) + x) = ((n * base + d : Nat) : Int) ∧ n * base + d ≤ 70368744177763 := by
  subst hx
  have h1 : n ≤ farN := by omega
  have h2 : n * base ≤ farN * 16 := Nat.mul_le_mul h1 hb'
  unfold farN at *
  refine ⟨?_, by omega⟩
  rw [← Int.natCast_mul, wrap64_in ((n * base : Nat) : Int) (by omega) (by omega), ← Int.natCast_add, wrap64_in ((n * base + d : Nat) : Int) (by omega) (by omega)]
def RunR (e : Ending) (E : Nat) (D : Option Nat) : Prop := ∃ n : Nat, n ≤ farN ∧ e = .returned (.tuple #[.int .i64 (n : Int), .int .i64 (E : Int), .bool D.isSome]) ∧ ∀ V, D = some V → n = min V farN
theorem runI_fin {base : Nat} {s : ByteArray} {E : Nat} {D : Option Nat} {k N C n : Nat} {O G : Bool} (h : RunI base s E D k N C O) (ht : tw base s k = []) (hn : min N farN = n) (hG : (decide (0 < C) && !lastU s k) = G) {e : Ending} (he : e = .returned (.tuple #[.int .i64 (n : Int), .int .i64 (k : Int), .bool (O && G)])) : RunR e E D := by
  obtain ⟨h1, h2, h3⟩ := runI_end h ht
  subst he
  refine ⟨n, by omega, ?_, fun V hV => ?_⟩
  · rw [h1]
    cases O
    · rw [h3 rfl]; rfl
    · rw [h2 rfl, hG]
      cases G <;> rfl
  · cases O
    · rw [h3 rfl] at hV; cases hV
    · rw [h2 rfl, hG] at hV
      cases G
      · cases hV
      · injection hV with hV
        rw [← hV]
        exact hn.symm
def RunL (base : Nat) (s : ByteArray) (a0 E : Nat) (D : Option Nat) (a n c o : Value) : Prop := ∃ (k N C : Nat) (O : Bool), a0 ≤ k ∧ k ≤ s.size ∧ a = .int .i64 (k : Int) ∧ n = .int .i64 ((min N farN : Nat) : Int) ∧ c = .int .i64 (C : Int) ∧ C ≤ k ∧ o = .bool O ∧ RunI base s E D k N C O
theorem runL_mk {base : Nat} {s : ByteArray} {a0 E : Nat} {D : Option Nat} {k N C : Nat} {O : Bool} {x y z : Int} (h : RunI base s E D k N C O) (h1 : a0 ≤ k) (h2 : k ≤ s.size) (h3 : C ≤ k) (hx : x = (k : Int)) (hy : y = ((min N farN : Nat) : Int)) (hz : z = (C : Int)) : Hid (RunL base s a0 E D (.int .i64 x) (.int .i64 y) (.int .i64 z) (.bool O)) := Lib.hid (by
  subst hx hy hz
  exact ⟨k, N, C, O, h1, h2, rfl, rfl, rfl, h3, rfl, h⟩)
set_option maxRecDepth 100000 in
set_option maxHeartbeats 6400000 in
theorem run_any (s : ByteArray) (a0 base : Nat) (w : World) (hb : base = 2 ∨ base = 10 ∨ base = 16) (hs : s.size ≤ maxLen) (ha : a0 ≤ s.size) :
    Calls Tryd.prog 24 #[.string s, .int .i64 (a0 : Int), .int .i64 (base : Int)] w fun e w' => RunR e (a0 + (tw base s a0).length) (digF base (tw base s a0) 0 false) ∧ w' = w := by
  unfold maxLen at hs
  obtain ⟨D, hD⟩ : ∃ D, digF base (tw base s a0) 0 false = D := ⟨_, rfl⟩
  obtain ⟨E, hE⟩ : ∃ E, a0 + (tw base s a0).length = E := ⟨_, rfl⟩
  have HI : Hid (RunI base s E D a0 0 0 true) := Lib.hid ⟨hE, fun _ => hD, fun h => by cases h⟩
  rw [hD, hE]
  clear hD hE
  have hb1 : 2 ≤ base := by omega
  have hb2 : base ≤ 16 := by omega
  have HB := Lib.hid hb
  clear hb
  go_enter Tryd.func24, Tryd.ntmps24
  go_wp2
  go_loop [1, 9, 10, 11] (fun a n c o => RunL base s a0 E D a n c o) (fun a _ _ _ => s.size - (intOf a).toNat)
  case atStart => exact (runL_mk (N := 0) (C := 0) HI.out (Nat.le_refl _) ha (Nat.zero_le _) rfl rfl rfl).out
  case round =>
    obtain ⟨k, N, C, O, hk0, hk, rfl, rfl, rfl, hC, rfl, hI'⟩ := hrel
    have hI := Lib.hid hI'
    clear hI'
    clear HI
    have hcap : min N farN ≤ farN := Nat.min_le_right _ _
    obtain ⟨n, hn⟩ : ∃ n, min N farN = n := ⟨_, rfl⟩
    rw [hn] at hcap ⊢
    have HN := Lib.hid hn
    clear hn
    have hl : farN = 4398046511104 := rfl
    by_cases hlt : k < s.size
    · obtain ⟨c, hc⟩ : ∃ c, s[k] = c := ⟨_, rfl⟩
      have hc0 := c.toNat_lt
      have fin : ∀ G : Bool, tw base s k = [] → (decide (0 < C) && !lastU s k) = G → RunR (.returned (.tuple #[.int .i64 (n : Int), .int .i64 (k : Int), .bool (O && G)])) E D := fun G ht hG => runI_fin hI.out ht HN.out hG rfl
      have FIN := Lib.hid fin
      clear fin
      by_cases h95 : c.toNat = 95
      · have hz : (c.toNat : Int) = 95 := by omega
        have hU : ∀ G : Bool, (decide (0 < C) && !lastU s k) = G → Hid (RunI base s E D (k + 1) N C (O && G)) := fun G hG => Lib.hid (runI_under hI.out hlt hc h95 hG hb2)
        have HU := Lib.hid hU
        clear hU hI
        have hq : ((base : Int) == 16) = true ∨ ((base : Int) == 16) = false := by cases ((base : Int) == 16) <;> simp
        rcases hq with hq | hq
        all_goals
          rcases Nat.eq_zero_or_pos C with h0 | h0
          · have hC0 : ((C : Int) == 0) = true := by simp; omega
            have RO := runL_mk (a0 := a0) (k := k + 1) (N := N) (C := C) (O := false) (x := ((k : Nat) : Int) + 1) (y := (n : Int)) (z := (C : Int)) (by simpa using (HU.out false (by simp [h0])).out) (by omega) (by omega) (by omega) (by omega) (by rw [HN.out]) (by omega)
            clear h0 HU FIN
            go_wp2
            all_goals
              go_round
              case rel => exact RO.out
              case measure => simp [intOf]; omega
          · obtain ⟨k', rfl⟩ : ∃ k', k = k' + 1 := ⟨k - 1, by omega⟩
            have hC0 : ((C : Int) == 0) = false := by simp; omega
            obtain ⟨p, hp⟩ : ∃ p, s[k'] = p := ⟨_, rfl⟩
            have hlu : Hid (lastU s (k' + 1) = decide (p.toNat = 95)) := Lib.hid (by rw [lastU_succ s k' (by omega), hp])
            by_cases hp95 : (p.toNat : Int) = 95
            · have RO := runL_mk (a0 := a0) (k := k' + 1 + 1) (N := N) (C := C) (O := false) (x := (k' : Int) + 1 + 1) (y := (n : Int)) (z := (C : Int)) (by simpa using (HU.out false (by rw [hlu.out]; simp [show p.toNat = 95 by omega])).out) (by omega) (by omega) (by omega) (by omega) (by rw [HN.out]) (by rfl)
              clear HU FIN
              go_wp2
              all_goals
                go_round
                case rel => exact RO.out
                case measure => simp [intOf]; omega
            · have hp96 : ((p.toNat : Int) == 95) = false := by simpa using hp95
              have RO := runL_mk (a0 := a0) (k := k' + 1 + 1) (N := N) (C := C) (O := O) (x := (k' : Int) + 1 + 1) (y := (n : Int)) (z := (C : Int)) (by simpa using (HU.out true (by rw [hlu.out]; simp [show ¬ p.toNat = 95 by omega, h0])).out) (by omega) (by omega) (by omega) (by omega) (by rw [HN.out]) (by rfl)
              clear HU FIN
              go_wp2
              all_goals
                go_round
                case rel => exact RO.out
                case measure => simp [intOf]; omega
      · have hz : ((c.toNat : Int) == 95) = false := by simp; omega
        by_cases hdl : dgV c < base
        · obtain ⟨y, hy⟩ : ∃ y, dgV c = y := ⟨_, rfl⟩
          have hR : Hid (RunI base s E D (k + 1) (N * base + y) (C + 1) O) := Lib.hid (runI_digit hb2 hI.out hlt hc hy (by omega))
          clear hI FIN
          have hcap2 : Hid (min (n * base + y) farN = min (N * base + y) farN) := Lib.hid (by rw [← HN.out]; exact cap_dig N y base farN (by omega))
          rcases (show (48 ≤ c.toNat ∧ c.toNat ≤ 57) ∨ (97 ≤ c.toNat ∧ c.toNat ≤ 102) ∨ (¬ (48 ≤ c.toNat ∧ c.toNat ≤ 57) ∧ ¬ (97 ≤ c.toNat ∧ c.toNat ≤ 102)) by omega) with h | h | h
          · have h1 : (48 : Int) ≤ (c.toNat : Int) := by omega
            have h2 : (c.toNat : Int) ≤ 57 := by omega
            have hd : y = c.toNat - 48 := by rw [← hy]; simp [dgV, h]
            have HX := Lib.hid (far_next (d := y) (x := (c.toNat : Int) - 48) HN.out hb2 (by omega) (by omega))
            have hb3 : ¬ (base : Int) ≤ (c.toNat : Int) - 48 := by omega
            clear h hd hy hdl
            go_wp2
            all_goals
              go_round
              case rel =>
                refine (runL_mk (k := k + 1) (N := N * base + y) (C := C + 1) hR.out ?_ ?_ ?_ ?_ ?_ ?_).out
                · omega
                · omega
                · omega
                · omega
                · rw [← hcap2.out]
                  have hx := HX.out.1
                  unfold farN
                  omega
                · omega
              case measure => simp [intOf]; omega
          · have h0 : ¬ (c.toNat : Int) ≤ 57 := by omega
            have h1 : (97 : Int) ≤ (c.toNat : Int) := by omega
            have h2 : (c.toNat : Int) ≤ 102 := by omega
            have hd : y = c.toNat - 87 := by rw [← hy]; simp [dgV, h]; omega
            have hbb : base = 16 := by have := HB.out; omega
            have hbi : ((base : Int) == 16) = true := by simp; omega
            have HX := Lib.hid (far_next (d := y) (x := (c.toNat : Int) - 97 + 10) HN.out hb2 (by omega) (by omega))
            have hb3 : ¬ (base : Int) ≤ (c.toNat : Int) - 97 + 10 := by omega
            have HBB := Lib.hid hbb
            clear hbb
            clear h hd hy hdl
            go_wp2
            all_goals
              go_round
              case rel =>
                refine (runL_mk (k := k + 1) (N := N * base + y) (C := C + 1) hR.out ?_ ?_ ?_ ?_ ?_ ?_).out
                · omega
                · omega
                · omega
                · omega
                · rw [← hcap2.out]
                  have hx := HX.out.1
                  unfold farN
                  omega
                · omega
              case measure => simp [intOf]; omega
          · exfalso
            have : dgV c = 99 := by simp [dgV, h]
            omega
        · have hnil : tw base s k = [] := tw_stop hlt hc (by simp [isD, h95, hdl])
          have HNIL := Lib.hid hnil
          clear hnil
          clear hI
          rcases (show (48 ≤ c.toNat ∧ c.toNat ≤ 57) ∨ (97 ≤ c.toNat ∧ c.toNat ≤ 102) ∨ (¬ (48 ≤ c.toNat ∧ c.toNat ≤ 57) ∧ ¬ (97 ≤ c.toNat ∧ c.toNat ≤ 102)) by omega) with h | h | h
          · have h1 : (48 : Int) ≤ (c.toNat : Int) := by omega
            have h2 : (c.toNat : Int) ≤ 57 := by omega
            have hd : dgV c = c.toNat - 48 := by simp [dgV, h]
            have hb3 : (base : Int) ≤ (c.toNat : Int) - 48 := by omega
            have hb4 : ¬ (c.toNat : Int) - 48 < 0 := by omega
            clear h hd hdl
            rcases Nat.eq_zero_or_pos C with hz9 | hz9
            · have hC0 : ((C : Int) == 0) = true := by simp; omega
              have hG : (decide (0 < C) && !lastU s k) = false := by simp [hz9]
              have HR' := FIN.out false HNIL.out hG
              rw [Bool.and_false] at HR'
              have HR := Lib.hid HR'
              clear HR'
              clear hG hz9 FIN HNIL
              go_wp2
              all_goals
                exact bodyPost_ret (v := .tuple #[.int .i64 (n : Int), .int .i64 ((k : Nat) : Int), .bool false]) (by simp [results, Tryd.results24, go_sem]) rfl ⟨HR.out, rfl⟩
            · obtain ⟨k', rfl⟩ : ∃ k', k = k' + 1 := ⟨k - 1, by omega⟩
              have hC0 : ((C : Int) == 0) = false := by simp; omega
              obtain ⟨p, hp⟩ : ∃ p, s[k'] = p := ⟨_, rfl⟩
              have hlu : Hid (lastU s (k' + 1) = decide (p.toNat = 95)) := Lib.hid (by rw [lastU_succ s k' (by omega), hp])
              by_cases hp95 : (p.toNat : Int) = 95
              · have hp96 : ((p.toNat : Int) == 95) = true := by simpa using hp95
                have hG : (decide (0 < C) && !lastU s (k' + 1)) = false := by rw [hlu.out]; simp [show p.toNat = 95 by omega]
                have HR' := FIN.out false HNIL.out hG
                rw [Bool.and_false] at HR'
                have HR := Lib.hid HR'
                clear HR'
                clear hG hp95 FIN HNIL hlu
                go_wp2
                all_goals
                  exact bodyPost_ret (v := .tuple #[.int .i64 (n : Int), .int .i64 ((k' + 1 : Nat) : Int), .bool false]) (by simp [results, Tryd.results24, go_sem]) rfl ⟨HR.out, rfl⟩
              · have hp96 : ((p.toNat : Int) == 95) = false := by simpa using hp95
                have hG : (decide (0 < C) && !lastU s (k' + 1)) = true := by rw [hlu.out]; simp [show ¬ p.toNat = 95 by omega, hz9]
                have HR' := FIN.out true HNIL.out hG
                rw [Bool.and_true] at HR'
                have HR := Lib.hid HR'
                clear HR'
                clear hG hp95 FIN HNIL hlu
                go_wp2
                all_goals
                  exact bodyPost_ret (v := .tuple #[.int .i64 (n : Int), .int .i64 ((k' + 1 : Nat) : Int), .bool O]) (by simp [results, Tryd.results24, go_sem]) rfl ⟨HR.out, rfl⟩
          · have h0 : ¬ (c.toNat : Int) ≤ 57 := by omega
            have h1 : (97 : Int) ≤ (c.toNat : Int) := by omega
            have h2 : (c.toNat : Int) ≤ 102 := by omega
            have hd : dgV c = c.toNat - 87 := by simp [dgV, h]; omega
            have hbb : ¬ base = 16 := by omega
            have hbi : ((base : Int) == 16) = false := by simp; omega
            clear h hd hdl
            rcases Nat.eq_zero_or_pos C with hz9 | hz9
            · have hC0 : ((C : Int) == 0) = true := by simp; omega
              have hG : (decide (0 < C) && !lastU s k) = false := by simp [hz9]
              have HR' := FIN.out false HNIL.out hG
              rw [Bool.and_false] at HR'
              have HR := Lib.hid HR'
              clear HR'
              clear hG hz9 FIN HNIL
              go_wp2
              all_goals
                exact bodyPost_ret (v := .tuple #[.int .i64 (n : Int), .int .i64 ((k : Nat) : Int), .bool false]) (by simp [results, Tryd.results24, go_sem]) rfl ⟨HR.out, rfl⟩
            · obtain ⟨k', rfl⟩ : ∃ k', k = k' + 1 := ⟨k - 1, by omega⟩
              have hC0 : ((C : Int) == 0) = false := by simp; omega
              obtain ⟨p, hp⟩ : ∃ p, s[k'] = p := ⟨_, rfl⟩
              have hlu : Hid (lastU s (k' + 1) = decide (p.toNat = 95)) := Lib.hid (by rw [lastU_succ s k' (by omega), hp])
              by_cases hp95 : (p.toNat : Int) = 95
              · have hp96 : ((p.toNat : Int) == 95) = true := by simpa using hp95
                have hG : (decide (0 < C) && !lastU s (k' + 1)) = false := by rw [hlu.out]; simp [show p.toNat = 95 by omega]
                have HR' := FIN.out false HNIL.out hG
                rw [Bool.and_false] at HR'
                have HR := Lib.hid HR'
                clear HR'
                clear hG hp95 FIN HNIL hlu
                go_wp2
                all_goals
                  exact bodyPost_ret (v := .tuple #[.int .i64 (n : Int), .int .i64 ((k' + 1 : Nat) : Int), .bool false]) (by simp [results, Tryd.results24, go_sem]) rfl ⟨HR.out, rfl⟩
              · have hp96 : ((p.toNat : Int) == 95) = false := by simpa using hp95
                have hG : (decide (0 < C) && !lastU s (k' + 1)) = true := by rw [hlu.out]; simp [show ¬ p.toNat = 95 by omega, hz9]
                have HR' := FIN.out true HNIL.out hG
                rw [Bool.and_true] at HR'
                have HR := Lib.hid HR'
                clear HR'
                clear hG hp95 FIN HNIL hlu
                go_wp2
                all_goals
                  exact bodyPost_ret (v := .tuple #[.int .i64 (n : Int), .int .i64 ((k' + 1 : Nat) : Int), .bool O]) (by simp [results, Tryd.results24, go_sem]) rfl ⟨HR.out, rfl⟩
          · rcases (show c.toNat < 48 ∨ (58 ≤ c.toNat ∧ c.toNat < 97) ∨ 103 ≤ c.toNat by omega) with hx | hx | hx
            · have g0 : ¬ (48 : Int) ≤ (c.toNat : Int) := by omega
              have g1 : ¬ (97 : Int) ≤ (c.toNat : Int) := by omega
              clear hdl h hx
              rcases (show ((base : Int) == 16) = true ∨ ((base : Int) == 16) = false by cases ((base : Int) == 16) <;> simp) with hq | hq
              all_goals
               rcases Nat.eq_zero_or_pos C with hz9 | hz9
               · have hC0 : ((C : Int) == 0) = true := by simp; omega
                 have hG : (decide (0 < C) && !lastU s k) = false := by simp [hz9]
                 have HR' := FIN.out false HNIL.out hG
                 rw [Bool.and_false] at HR'
                 have HR := Lib.hid HR'
                 clear HR'
                 clear hG hz9 FIN HNIL
                 go_wp2
                 all_goals
                   exact bodyPost_ret (v := .tuple #[.int .i64 (n : Int), .int .i64 ((k : Nat) : Int), .bool false]) (by simp [results, Tryd.results24, go_sem]) rfl ⟨HR.out, rfl⟩
               · obtain ⟨k', rfl⟩ : ∃ k', k = k' + 1 := ⟨k - 1, by omega⟩
                 have hC0 : ((C : Int) == 0) = false := by simp; omega
                 obtain ⟨p, hp⟩ : ∃ p, s[k'] = p := ⟨_, rfl⟩
                 have hlu : Hid (lastU s (k' + 1) = decide (p.toNat = 95)) := Lib.hid (by rw [lastU_succ s k' (by omega), hp])
                 by_cases hp95 : (p.toNat : Int) = 95
                 · have hp96 : ((p.toNat : Int) == 95) = true := by simpa using hp95
                   have hG : (decide (0 < C) && !lastU s (k' + 1)) = false := by rw [hlu.out]; simp [show p.toNat = 95 by omega]
                   have HR' := FIN.out false HNIL.out hG
                   rw [Bool.and_false] at HR'
                   have HR := Lib.hid HR'
                   clear HR'
                   clear hG hp95 FIN HNIL hlu
                   go_wp2
                   all_goals
                     exact bodyPost_ret (v := .tuple #[.int .i64 (n : Int), .int .i64 ((k' + 1 : Nat) : Int), .bool false]) (by simp [results, Tryd.results24, go_sem]) rfl ⟨HR.out, rfl⟩
                 · have hp96 : ((p.toNat : Int) == 95) = false := by simpa using hp95
                   have hG : (decide (0 < C) && !lastU s (k' + 1)) = true := by rw [hlu.out]; simp [show ¬ p.toNat = 95 by omega, hz9]
                   have HR' := FIN.out true HNIL.out hG
                   rw [Bool.and_true] at HR'
                   have HR := Lib.hid HR'
                   clear HR'
                   clear hG hp95 FIN HNIL hlu
                   go_wp2
                   all_goals
                     exact bodyPost_ret (v := .tuple #[.int .i64 (n : Int), .int .i64 ((k' + 1 : Nat) : Int), .bool O]) (by simp [results, Tryd.results24, go_sem]) rfl ⟨HR.out, rfl⟩
            · have g0 : (48 : Int) ≤ (c.toNat : Int) := by omega
              have g1 : ¬ (c.toNat : Int) ≤ 57 := by omega
              have g2 : ¬ (97 : Int) ≤ (c.toNat : Int) := by omega
              clear hdl h hx
              rcases (show ((base : Int) == 16) = true ∨ ((base : Int) == 16) = false by cases ((base : Int) == 16) <;> simp) with hq | hq
              all_goals
               rcases Nat.eq_zero_or_pos C with hz9 | hz9
               · have hC0 : ((C : Int) == 0) = true := by simp; omega
                 have hG : (decide (0 < C) && !lastU s k) = false := by simp [hz9]
                 have HR' := FIN.out false HNIL.out hG
                 rw [Bool.and_false] at HR'
                 have HR := Lib.hid HR'
                 clear HR'
                 clear hG hz9 FIN HNIL
                 go_wp2
                 all_goals
                   exact bodyPost_ret (v := .tuple #[.int .i64 (n : Int), .int .i64 ((k : Nat) : Int), .bool false]) (by simp [results, Tryd.results24, go_sem]) rfl ⟨HR.out, rfl⟩
               · obtain ⟨k', rfl⟩ : ∃ k', k = k' + 1 := ⟨k - 1, by omega⟩
                 have hC0 : ((C : Int) == 0) = false := by simp; omega
                 obtain ⟨p, hp⟩ : ∃ p, s[k'] = p := ⟨_, rfl⟩
                 have hlu : Hid (lastU s (k' + 1) = decide (p.toNat = 95)) := Lib.hid (by rw [lastU_succ s k' (by omega), hp])
                 by_cases hp95 : (p.toNat : Int) = 95
                 · have hp96 : ((p.toNat : Int) == 95) = true := by simpa using hp95
                   have hG : (decide (0 < C) && !lastU s (k' + 1)) = false := by rw [hlu.out]; simp [show p.toNat = 95 by omega]
                   have HR' := FIN.out false HNIL.out hG
                   rw [Bool.and_false] at HR'
                   have HR := Lib.hid HR'
                   clear HR'
                   clear hG hp95 FIN HNIL hlu
                   go_wp2
                   all_goals
                     exact bodyPost_ret (v := .tuple #[.int .i64 (n : Int), .int .i64 ((k' + 1 : Nat) : Int), .bool false]) (by simp [results, Tryd.results24, go_sem]) rfl ⟨HR.out, rfl⟩
                 · have hp96 : ((p.toNat : Int) == 95) = false := by simpa using hp95
                   have hG : (decide (0 < C) && !lastU s (k' + 1)) = true := by rw [hlu.out]; simp [show ¬ p.toNat = 95 by omega, hz9]
                   have HR' := FIN.out true HNIL.out hG
                   rw [Bool.and_true] at HR'
                   have HR := Lib.hid HR'
                   clear HR'
                   clear hG hp95 FIN HNIL hlu
                   go_wp2
                   all_goals
                     exact bodyPost_ret (v := .tuple #[.int .i64 (n : Int), .int .i64 ((k' + 1 : Nat) : Int), .bool O]) (by simp [results, Tryd.results24, go_sem]) rfl ⟨HR.out, rfl⟩
            · have g0 : (48 : Int) ≤ (c.toNat : Int) := by omega
              have g1 : ¬ (c.toNat : Int) ≤ 57 := by omega
              have g2 : (97 : Int) ≤ (c.toNat : Int) := by omega
              have g3 : ¬ (c.toNat : Int) ≤ 102 := by omega
              clear hdl h hx
              rcases (show ((base : Int) == 16) = true ∨ ((base : Int) == 16) = false by cases ((base : Int) == 16) <;> simp) with hq | hq
              all_goals
               rcases Nat.eq_zero_or_pos C with hz9 | hz9
               · have hC0 : ((C : Int) == 0) = true := by simp; omega
                 have hG : (decide (0 < C) && !lastU s k) = false := by simp [hz9]
                 have HR' := FIN.out false HNIL.out hG
                 rw [Bool.and_false] at HR'
                 have HR := Lib.hid HR'
                 clear HR'
                 clear hG hz9 FIN HNIL
                 go_wp2
                 all_goals
                   exact bodyPost_ret (v := .tuple #[.int .i64 (n : Int), .int .i64 ((k : Nat) : Int), .bool false]) (by simp [results, Tryd.results24, go_sem]) rfl ⟨HR.out, rfl⟩
               · obtain ⟨k', rfl⟩ : ∃ k', k = k' + 1 := ⟨k - 1, by omega⟩
                 have hC0 : ((C : Int) == 0) = false := by simp; omega
                 obtain ⟨p, hp⟩ : ∃ p, s[k'] = p := ⟨_, rfl⟩
                 have hlu : Hid (lastU s (k' + 1) = decide (p.toNat = 95)) := Lib.hid (by rw [lastU_succ s k' (by omega), hp])
                 by_cases hp95 : (p.toNat : Int) = 95
                 · have hp96 : ((p.toNat : Int) == 95) = true := by simpa using hp95
                   have hG : (decide (0 < C) && !lastU s (k' + 1)) = false := by rw [hlu.out]; simp [show p.toNat = 95 by omega]
                   have HR' := FIN.out false HNIL.out hG
                   rw [Bool.and_false] at HR'
                   have HR := Lib.hid HR'
                   clear HR'
                   clear hG hp95 FIN HNIL hlu
                   go_wp2
                   all_goals
                     exact bodyPost_ret (v := .tuple #[.int .i64 (n : Int), .int .i64 ((k' + 1 : Nat) : Int), .bool false]) (by simp [results, Tryd.results24, go_sem]) rfl ⟨HR.out, rfl⟩
                 · have hp96 : ((p.toNat : Int) == 95) = false := by simpa using hp95
                   have hG : (decide (0 < C) && !lastU s (k' + 1)) = true := by rw [hlu.out]; simp [show ¬ p.toNat = 95 by omega, hz9]
                   have HR' := FIN.out true HNIL.out hG
                   rw [Bool.and_true] at HR'
                   have HR := Lib.hid HR'
                   clear HR'
                   clear hG hp95 FIN HNIL hlu
                   go_wp2
                   all_goals
                     exact bodyPost_ret (v := .tuple #[.int .i64 (n : Int), .int .i64 ((k' + 1 : Nat) : Int), .bool O]) (by simp [results, Tryd.results24, go_sem]) rfl ⟨HR.out, rfl⟩
    · have HNIL : Hid (tw base s k = []) := Lib.hid (tw_end hlt)
      have FIN : Hid (∀ G : Bool, tw base s k = [] → (decide (0 < C) && !lastU s k) = G → RunR (.returned (.tuple #[.int .i64 (n : Int), .int .i64 (k : Int), .bool (O && G)])) E D) := Lib.hid fun G ht hG => runI_fin hI.out ht HN.out hG rfl
      clear hI
      rcases Nat.eq_zero_or_pos C with hz9 | hz9
      · have hC0 : ((C : Int) == 0) = true := by simp; omega
        have hG : (decide (0 < C) && !lastU s k) = false := by simp [hz9]
        have HR' := FIN.out false HNIL.out hG
        rw [Bool.and_false] at HR'
        have HR := Lib.hid HR'
        clear HR'
        clear hG hz9 FIN HNIL
        go_wp2
        all_goals
          exact bodyPost_ret (v := .tuple #[.int .i64 (n : Int), .int .i64 ((k : Nat) : Int), .bool false]) (by simp [results, Tryd.results24, go_sem]) rfl ⟨HR.out, rfl⟩
      · obtain ⟨k', rfl⟩ : ∃ k', k = k' + 1 := ⟨k - 1, by omega⟩
        have hC0 : ((C : Int) == 0) = false := by simp; omega
        obtain ⟨p, hp⟩ : ∃ p, s[k'] = p := ⟨_, rfl⟩
        have hlu : Hid (lastU s (k' + 1) = decide (p.toNat = 95)) := Lib.hid (by rw [lastU_succ s k' (by omega), hp])
        by_cases hp95 : (p.toNat : Int) = 95
        · have hp96 : ((p.toNat : Int) == 95) = true := by simpa using hp95
          have hG : (decide (0 < C) && !lastU s (k' + 1)) = false := by rw [hlu.out]; simp [show p.toNat = 95 by omega]
          have HR' := FIN.out false HNIL.out hG
          rw [Bool.and_false] at HR'
          have HR := Lib.hid HR'
          clear HR'
          clear hG hp95 FIN HNIL hlu
          go_wp2
          all_goals
            exact bodyPost_ret (v := .tuple #[.int .i64 (n : Int), .int .i64 ((k' + 1 : Nat) : Int), .bool false]) (by simp [results, Tryd.results24, go_sem]) rfl ⟨HR.out, rfl⟩
        · have hp96 : ((p.toNat : Int) == 95) = false := by simpa using hp95
          have hG : (decide (0 < C) && !lastU s (k' + 1)) = true := by rw [hlu.out]; simp [show ¬ p.toNat = 95 by omega, hz9]
          have HR' := FIN.out true HNIL.out hG
          rw [Bool.and_true] at HR'
          have HR := Lib.hid HR'
          clear HR'
          clear hG hp95 FIN HNIL hlu
          go_wp2
          all_goals
            exact bodyPost_ret (v := .tuple #[.int .i64 (n : Int), .int .i64 ((k' + 1 : Nat) : Int), .bool O]) (by simp [results, Tryd.results24, go_sem]) rfl ⟨HR.out, rfl⟩
end Go.Proofs.YtckjnlonijodcaaDoor.Tx
