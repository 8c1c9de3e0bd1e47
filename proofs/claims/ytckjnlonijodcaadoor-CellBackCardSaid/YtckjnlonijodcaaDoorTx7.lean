/-
  The reference's times, walked. No conditions but that the text fits a machine.
-/
import Derived.Test.YtckjnlonijodcaaDoorTx6
import Derived.Deep.DeepCutAuto
namespace Go.Proofs.YtckjnlonijodcaaDoor.Tx
open Go.RowKit Go.Proofs.YtckjnlonijodcaaDoor.W Go.Proofs.YtckjnlonijodcaaDoor.Num Go.Proofs.YtckjnlonijodcaaDoor.Cell

/-- what is told of a time, up to a lid -/
def SpanR (e : Ending) (D : Option Nat) : Prop := ∃ n : Nat, n ≤ 9007199254740992 ∧ e = .returned (.tuple #[.int .i64 (n : Int), .bool D.isSome]) ∧ ∀ V, D = some V → capR n V
theorem span_none {e : Ending} {D : Option Nat} (hD : D = none) (he : e = .returned (.tuple #[.int .i64 0, .bool false])) : SpanR e D := by
  subst hD he
  exact ⟨0, by omega, rfl, fun V h => by cases h⟩
def SpL (s : ByteArray) (D : Option Nat) (a u l : Value) : Prop := ∃ k S T r : Nat, k ≤ s.size ∧ a = .int .i64 (k : Int) ∧ u = .int .i64 (T : Int) ∧ l = .int .i64 (r : Int) ∧ r ≤ 5 ∧ T ≤ farN ∧ capR T S ∧ TimI s k (worthF r) S D
/-- the sum, capped -/
theorem sum_far {T S V n w q X : Nat} (hT : T ≤ farN) (hc : capR T S) (hn : n = min V farN) (hw : 1 ≤ w) (hw' : w ≤ 86400000) (hq : q = farN / w) (hX : X = min (T + (if q < n then q else n) * w) farN) : capR X (S + V * w) := by
  have hqw : q * w ≤ farN ∧ farN < q * w + w := by
    subst hq
    have h1 := Nat.div_mul_le_self farN w
    have h2 := Nat.lt_div_mul_add (a := farN) (b := w) (by omega)
    omega
  have hqf : q ≤ farN := by
    have := Nat.le_mul_of_pos_right q hw
    omega
  have hmin : (if q < n then q else n) = min V q := by split <;> omega
  rw [hmin] at hX
  unfold capR farN at *
  rcases Nat.lt_or_ge q V with h | h
  · have hm : min V q = q := by omega
    rw [hm] at hX
    have h2 : q * w ≤ V * w := Nat.mul_le_mul_right w (by omega)
    omega
  · have hm : min V q = V := by omega
    rw [hm] at hX
    have h2 : V * w ≤ q * w := Nat.mul_le_mul_right w h
    omega
theorem sum_b {T : Nat} {y : Int} (hT : T ≤ farN) (h0 : 0 ≤ y) (h1 : y ≤ 4398046511104) : wrap64 ((T : Int) + wrap64 y) = (T : Int) + y := by
  unfold farN at hT
  rw [wrap64_in y (by omega) (by omega), wrap64_in _ (by omega) (by omega)]
theorem sum_c {T x W : Nat} {g : Int} (hg : g = (W : Int)) (hT : T ≤ farN) (hx : x * W ≤ 4398046511104) : wrap64 ((T : Int) + wrap64 ((x : Int) * g)) = ((T + x * W : Nat) : Int) := by
  subst hg
  rw [← Int.natCast_mul, sum_b hT (by omega) (by omega)]
  omega
theorem fin1 {T n q W : Nat} {g q' : Int} (hg : g = (W : Int)) (hT : T ≤ farN) (hq : q' = (q : Int)) (hx : q * W ≤ 4398046511104) (h5 : q' < (n : Int)) (hc : 4398046511104 < wrap64 ((T : Int) + wrap64 (q' * g))) : (4398046511104 : Int) = ((min (T + (if q < n then q else n) * W) farN : Nat) : Int) := by
  subst hq
  rw [sum_c hg hT hx] at hc
  rw [if_pos (by omega)]
  unfold farN
  omega
theorem fin2 {T n q W : Nat} {g q' : Int} (hg : g = (W : Int)) (hT : T ≤ farN) (hq : q' = (q : Int)) (hx : q * W ≤ 4398046511104) (h5 : q' < (n : Int)) (hc : ¬ 4398046511104 < wrap64 ((T : Int) + wrap64 (q' * g))) : wrap64 ((T : Int) + wrap64 (q' * g)) = ((min (T + (if q < n then q else n) * W) farN : Nat) : Int) := by
  subst hq
  rw [sum_c hg hT hx] at hc ⊢
  rw [if_pos (by omega)]
  unfold farN
  omega
theorem fin3 {T n q W : Nat} {g q' : Int} (hg : g = (W : Int)) (hT : T ≤ farN) (hq : q' = (q : Int)) (hx : q * W ≤ 4398046511104) (h5 : ¬ q' < (n : Int)) (hc : 4398046511104 < wrap64 ((T : Int) + wrap64 ((n : Int) * g))) : (4398046511104 : Int) = ((min (T + (if q < n then q else n) * W) farN : Nat) : Int) := by
  subst hq
  have h6 : n * W ≤ q * W := Nat.mul_le_mul_right W (by omega)
  rw [sum_c hg hT (by omega)] at hc
  rw [if_neg (by omega)]
  unfold farN
  omega
theorem fin4 {T n q W : Nat} {g q' : Int} (hg : g = (W : Int)) (hT : T ≤ farN) (hq : q' = (q : Int)) (hx : q * W ≤ 4398046511104) (h5 : ¬ q' < (n : Int)) (hc : ¬ 4398046511104 < wrap64 ((T : Int) + wrap64 ((n : Int) * g))) : wrap64 ((T : Int) + wrap64 ((n : Int) * g)) = ((min (T + (if q < n then q else n) * W) farN : Nat) : Int) := by
  subst hq
  have h6 : n * W ≤ q * W := Nat.mul_le_mul_right W (by omega)
  rw [sum_c hg hT (by omega)] at hc ⊢
  rw [if_neg (by omega)]
  unfold farN
  omega
theorem worth_le {r R : Nat} (h : r ≤ 5) (h' : R ≤ 5) : worthF r ≤ worthF R ↔ r ≤ R := by
  have h1 : r = 0 ∨ r = 1 ∨ r = 2 ∨ r = 3 ∨ r = 4 ∨ r = 5 := by omega
  have h2 : R = 0 ∨ R = 1 ∨ R = 2 ∨ R = 3 ∨ R = 4 ∨ R = 5 := by omega
  rcases h1 with rfl | rfl | rfl | rfl | rfl | rfl <;> rcases h2 with rfl | rfl | rfl | rfl | rfl | rfl <;> simp [worthF, lidN]
theorem spl_mk {s : ByteArray} {D : Option Nat} {k' S' T' r' : Nat} {x y : Int} (h : TimI s k' (worthF r') S' D) (hk : k' ≤ s.size) (hr : r' ≤ 5) (hT : T' ≤ farN) (hc : capR T' S') (hx : x = (k' : Int)) (hy : y = (T' : Int)) : Hid (SpL s D (.int .i64 x) (.int .i64 y) (.int .i64 (r' : Int))) := Lib.hid (by
  subst hx hy
  exact ⟨k', S', T', r', hk, rfl, rfl, rfl, hr, hT, hc, h⟩)
set_option maxRecDepth 100000 in
set_option maxHeartbeats 25600000 in
theorem span_any (s : ByteArray) (w : World) (hs : s.size ≤ maxLen) :
    Calls Tryd.prog 23 #[.string s] w fun e w' => SpanR e (timeL s.data.toList) ∧ Below w.heap.size w w' := by
  have hs0 : s.size ≤ 9223372036854775807 := by unfold maxLen at hs; omega
  have HS := Lib.hid hs
  clear hs
  have hpre : (∃ b5 b2 : Bool, (5 ≤ s.size → ((s.extract 0 5).toList == [116, 105, 109, 101, 35]) = b5) ∧ (2 ≤ s.size → ((s.extract 0 2).toList == [116, 35]) = b2) ∧
      ((b5 = true ∧ timePre.isPrefixOf s.data.toList = true) ∨ (b5 = false ∧ b2 = true ∧ tPre.isPrefixOf s.data.toList = true ∧ ¬ timePre.isPrefixOf s.data.toList = true) ∨ (b5 = false ∧ b2 = false ∧ ¬ tPre.isPrefixOf s.data.toList = true ∧ ¬ timePre.isPrefixOf s.data.toList = true))) := by
    by_cases h2 : timePre.isPrefixOf s.data.toList = true
    · exact ⟨true, false, fun h => by rw [ext_pre (n := 5) (p := [116, 105, 109, 101, 35]) rfl h]; exact h2, fun h => by
        rw [ext_pre (n := 2) (p := [116, 35]) rfl h]
        obtain ⟨t, ht⟩ := List.isPrefixOf_iff_prefix.1 h2
        rw [← ht]
        simp [timePre, List.isPrefixOf], .inl ⟨rfl, h2⟩⟩
    · have e5 : 5 ≤ s.size → ((s.extract 0 5).toList == [116, 105, 109, 101, 35]) = false := fun h => by rw [ext_pre (n := 5) (p := [116, 105, 109, 101, 35]) rfl h]; exact Bool.eq_false_iff.2 h2
      by_cases h1 : tPre.isPrefixOf s.data.toList = true
      · exact ⟨false, true, e5, fun h => by rw [ext_pre (n := 2) (p := [116, 35]) rfl h]; exact h1, .inr (.inl ⟨rfl, rfl, h1, h2⟩)⟩
      · exact ⟨false, false, e5, fun h => by rw [ext_pre (n := 2) (p := [116, 35]) rfl h]; exact Bool.eq_false_iff.2 h1, .inr (.inr ⟨rfl, rfl, h1, h2⟩)⟩
  obtain ⟨b5, b2, hb5, hb2, hcase⟩ := hpre
  rcases hcase with ⟨rfl, hp⟩ | ⟨rfl, rfl, hp, hp'⟩ | ⟨rfl, rfl, hp1, hp2⟩
  · obtain ⟨q1, q2, q3⟩ := timeL_start s (k := 5) (.inr ⟨rfl, hp⟩)
    have g1 : (5 : Int) ≤ (s.size : Int) := by omega
    have g2 := hb5 q3
    have Q1 := Lib.hid q1
    have Q2 := Lib.hid q2
    clear q1 q2 hp hb5 hb2
    by_cases hz : s.size = 5
    · have hz1 : ((5 : Int) == (s.size : Int)) = true := by simp; omega
      go_enter Tryd.func23, Tryd.ntmps23
      go_wp2
      go_ret2
      exact ⟨span_none (Q2.out hz) rfl, Below.refl _ _⟩
    · have hz1 : ((5 : Int) == (s.size : Int)) = false := by simp; omega
      have HI : Hid (SpL s (timeL s.data.toList) (.int .i64 5) (.int .i64 0) (.int .i64 5)) := Lib.hid ⟨5, 0, 0, 5, q3, rfl, rfl, rfl, by omega, by omega, ⟨fun _ => rfl, fun h => by omega, by omega⟩, Q1.out (by omega)⟩
      clear Q1 Q2 hz
      generalize timeL s.data.toList = D at HI ⊢
      go_enter Tryd.func23, Tryd.ntmps23
      go_wp2
      go_loopw [4, 5, 6] (fun a u l wr => Hid (SpL s D a u l) ∧ Hid (Below w.heap.size w wr)) (fun a _ _ _ => s.size - (intOf a).toNat)
      case atStart => exact ⟨HI, Lib.hid (Below.refl _ _)⟩
      case round =>
        obtain ⟨hS, HB⟩ := hrel
        obtain ⟨k, S, T, r, hk, rfl, rfl, rfl, hr, hT, hc, hI⟩ := hS.out
        clear hS HI
        by_cases hlt : k < s.size
        · obtain ⟨E, hE⟩ : ∃ E, k + (tw 10 s k).length = E := ⟨_, rfl⟩
          obtain ⟨X, hX⟩ : ∃ X, digF 10 (tw 10 s k) 0 false = X := ⟨_, rfl⟩
          obtain ⟨t1, t2, t3, t4⟩ := tim_step hI hlt hE hX
          have hEle : E ≤ s.size := by have := tw_len 10 s k hk; omega
          have hkE : k ≤ E := by omega
          have hrun : ∀ W, Calls Tryd.prog 24 #[.string s, .int .i64 (k : Int), .int .i64 10] W fun e w' => RunR e E X ∧ w' = W := fun W => by
            have := run_at s k W HS.out hk
            rw [hE, hX] at this
            exact this
          have HRUN := Lib.hid hrun
          have T1 := Lib.hid t1
          have T2 := Lib.hid t2
          have T3 := Lib.hid t3
          have T4 := Lib.hid t4
          have Hc := Lib.hid hc
          clear hrun t1 t2 t3 t4 hE hX hI hc
          cases X with
          | none =>
            have hDn := Lib.hid (T1.out rfl)
            clear T1 T2 T3 T4
            go_wp2_with (go_at_call 24; refine (HRUN.out _).mono ?_; rintro e w' ⟨⟨n', hn', rfl, hv'⟩, rfl⟩; clear hv')
            go_ret2
            exact ⟨span_none hDn.out rfl, HB.out⟩
          | some V =>
            obtain ⟨n, hn⟩ : ∃ n, n = min V farN := ⟨_, rfl⟩
            have hnb : n ≤ farN := by omega
            have Hn := Lib.hid hn
            clear hn T1
            have hfar : farN = 4398046511104 := rfl
            by_cases hEs : E = s.size
            · have hDn := Lib.hid (T2.out hEs)
              have hEs1 : ((E : Int) == (s.size : Int)) = true := by simp; omega
              clear T2 T3 T4 hEs
              go_wp2_with (go_at_call 24; refine (HRUN.out _).mono ?_; rintro e w' ⟨⟨n', hn', rfl, hv'⟩, rfl⟩; obtain rfl : n = n' := Hn.out.trans (hv' V rfl).symm; clear hn' hv')
              go_ret2
              exact ⟨span_none hDn.out rfl, HB.out⟩
            · have hEl : E < s.size := by omega
              have hEs1 : ((E : Int) == (s.size : Int)) = false := by simp; omega
              clear T2 hEs
              obtain ⟨c, hcE⟩ : ∃ c, s[E] = c := ⟨_, rfl⟩
              obtain ⟨u1, u2, u3, u4, u5⟩ := unit_at hEl hcE
              rcases (show c.toNat = 100 ∨ c.toNat = 104 ∨ c.toNat = 115 ∨ c.toNat = 109 ∨ (c.toNat ≠ 100 ∧ c.toNat ≠ 104 ∧ c.toNat ≠ 115 ∧ c.toNat ≠ 109) by omega) with hc0 | hc0 | hc0 | hc0 | ⟨hc1, hc2, hc3, hc4⟩
              · have hu := u1 hc0
                have hc9 : (c.toNat : Int) = 100 := by omega
                clear u1 u2 u3 u4 u5 hc0
                by_cases hrr : r ≤ 4
                · have hDn : Hid (D = none) := Lib.hid (T3.out hEl (.inr (by rw [hu]; exact (worth_le (by omega) (by omega)).2 hrr)))
                  have hrr1 : (r : Int) ≤ 4 := by omega
                  clear hu hrr
                  go_wp2_with (go_at_call 24; refine (HRUN.out _).mono ?_; rintro e w' ⟨⟨n', hn', rfl, hv'⟩, rfl⟩; obtain rfl : n = n' := Hn.out.trans (hv' V rfl).symm; clear hn' hv')
                  go_ret2
                  exact ⟨span_none hDn.out rfl, HB.out⟩
                · have hT4 := T4.out V 86400000 1 rfl hEl hu (by omega) (by have := (worth_le (r := 4) (R := r) (by omega) (by omega)); have h9 : ¬ worthF r ≤ worthF 4 := fun h => hrr ((worth_le (by omega) (by omega)).1 h); have h8 : worthF 4 = 86400000 := rfl; omega)
                  have hTI : TimI s (E + 1) (worthF 4) (S + V * 86400000) D := by
                    have h8 : worthF 4 = 86400000 := rfl
                    rw [h8]
                    exact hT4.1
                  have HT4 := Lib.hid (And.intro hTI hT4.2.1)
                  clear hTI
                  obtain ⟨X, hXe⟩ : ∃ X, X = min (T + (if 50903 < n then 50903 else n) * 86400000) farN := ⟨_, rfl⟩
                  have HSF := Lib.hid (sum_far (q := 50903) (w := 86400000) (V := V) hT Hc.out Hn.out (by omega) (by omega) (by simp [farN]) hXe)
                  have hXb : X ≤ farN := by omega
                  have HSP : Hid (∀ y : Int, y = (X : Int) → Hid (SpL s D (.int .i64 ((E : Int) + 1)) (.int .i64 y) (.int .i64 4))) := Lib.hid fun y hy => spl_mk (k' := E + 1) (S' := S + V * 86400000) (T' := X) (r' := 4) HT4.out.1 HT4.out.2 (by omega) hXb HSF.out (by omega) hy
                  clear HSF HT4
                  have HX := Lib.hid hXe
                  clear hXe
                  have hrr1 : ¬ (r : Int) ≤ 4 := by omega
                  have hEz := hT4.2.1
                  have hE0 := hT4.2.2
                  clear hu hrr hT4 T3 T4
                  go_upto_region 27 with (go_at_call 24; refine (HRUN.out _).mono ?_; rintro e w' ⟨⟨n', hn', rfl, hv'⟩, rfl⟩; obtain rfl : n = n' := Hn.out.trans (hv' V rfl).symm; clear hn' hv')
                  obtain ⟨g, hg⟩ : ∃ g : Int, g = 86400000 := ⟨_, rfl⟩
                  have cg : (w'.alloc (.cells #[.int .i64 1, .int .i64 1000, .int .i64 60000, .int .i64 3600000, .int .i64 86400000] 3)).cell? ⟨w'.heap.size, 4, none⟩ = some (.int .i64 g) := by rw [hg]; simp
                  have HB2 : Hid (Below w.heap.size w (w'.alloc (.cells #[.int .i64 1, .int .i64 1000, .int .i64 60000, .int .i64 3600000, .int .i64 86400000] 3))) := Lib.hid (HB.out.trans ((below_alloc _).mono HB.out.size))
                  clear HB
                  generalize World.alloc _ _ = w2 at cg HB2 ⊢
                  have hq1 : Int.tdiv 4398046511104 g = 50903 := by rw [hg]; decide
                  have hg0 : ¬ g = 0 := by omega
                  have HG : Hid (g = ((86400000 : Nat) : Int)) := Lib.hid (by rw [hg]; decide)
                  clear hg
                  go_wp2
                  all_goals
                    go_roundw
                    case rel =>
                      refine ⟨HSP.out _ ?_, HB2⟩
                      rw [HX.out]
                      by_cases h5 : (50903 : Int) < (n : Int)
                      · by_cases hc : 4398046511104 < wrap64 ((T : Int) + wrap64 (50903 * g))
                        · first | (exfalso; omega) | exact fin1 (q := 50903) (W := 86400000) HG.out hT (by decide) (by decide) h5 hc
                        · first | (exfalso; omega) | exact fin2 (q := 50903) (W := 86400000) HG.out hT (by decide) (by decide) h5 hc
                      · by_cases hc : 4398046511104 < wrap64 ((T : Int) + wrap64 ((n : Int) * g))
                        · first | (exfalso; omega) | exact fin3 (q := 50903) (W := 86400000) (q' := 50903) HG.out hT (by decide) (by decide) h5 hc
                        · first | (exfalso; omega) | exact fin4 (q := 50903) (W := 86400000) (q' := 50903) HG.out hT (by decide) (by decide) h5 hc
                    case measure => simp [intOf]; omega
              · have hu := u2 hc0
                have hc9 : (c.toNat : Int) = 104 := by omega
                clear u1 u2 u3 u4 u5 hc0
                by_cases hrr : r ≤ 3
                · have hDn : Hid (D = none) := Lib.hid (T3.out hEl (.inr (by rw [hu]; exact (worth_le (by omega) (by omega)).2 hrr)))
                  have hrr1 : (r : Int) ≤ 3 := by omega
                  clear hu hrr
                  go_wp2_with (go_at_call 24; refine (HRUN.out _).mono ?_; rintro e w' ⟨⟨n', hn', rfl, hv'⟩, rfl⟩; obtain rfl : n = n' := Hn.out.trans (hv' V rfl).symm; clear hn' hv')
                  go_ret2
                  exact ⟨span_none hDn.out rfl, HB.out⟩
                · have hT4 := T4.out V 3600000 1 rfl hEl hu (by omega) (by have := (worth_le (r := 3) (R := r) (by omega) (by omega)); have h9 : ¬ worthF r ≤ worthF 3 := fun h => hrr ((worth_le (by omega) (by omega)).1 h); have h8 : worthF 3 = 3600000 := rfl; omega)
                  have hTI : TimI s (E + 1) (worthF 3) (S + V * 3600000) D := by
                    have h8 : worthF 3 = 3600000 := rfl
                    rw [h8]
                    exact hT4.1
                  have HT4 := Lib.hid (And.intro hTI hT4.2.1)
                  clear hTI
                  obtain ⟨X, hXe⟩ : ∃ X, X = min (T + (if 1221679 < n then 1221679 else n) * 3600000) farN := ⟨_, rfl⟩
                  have HSF := Lib.hid (sum_far (q := 1221679) (w := 3600000) (V := V) hT Hc.out Hn.out (by omega) (by omega) (by simp [farN]) hXe)
                  have hXb : X ≤ farN := by omega
                  have HSP : Hid (∀ y : Int, y = (X : Int) → Hid (SpL s D (.int .i64 ((E : Int) + 1)) (.int .i64 y) (.int .i64 3))) := Lib.hid fun y hy => spl_mk (k' := E + 1) (S' := S + V * 3600000) (T' := X) (r' := 3) HT4.out.1 HT4.out.2 (by omega) hXb HSF.out (by omega) hy
                  clear HSF HT4
                  have HX := Lib.hid hXe
                  clear hXe
                  have hrr1 : ¬ (r : Int) ≤ 3 := by omega
                  have hEz := hT4.2.1
                  have hE0 := hT4.2.2
                  clear hu hrr hT4 T3 T4
                  go_upto_region 27 with (go_at_call 24; refine (HRUN.out _).mono ?_; rintro e w' ⟨⟨n', hn', rfl, hv'⟩, rfl⟩; obtain rfl : n = n' := Hn.out.trans (hv' V rfl).symm; clear hn' hv')
                  obtain ⟨g, hg⟩ : ∃ g : Int, g = 3600000 := ⟨_, rfl⟩
                  have cg : (w'.alloc (.cells #[.int .i64 1, .int .i64 1000, .int .i64 60000, .int .i64 3600000, .int .i64 86400000] 3)).cell? ⟨w'.heap.size, 3, none⟩ = some (.int .i64 g) := by rw [hg]; simp
                  have HB2 : Hid (Below w.heap.size w (w'.alloc (.cells #[.int .i64 1, .int .i64 1000, .int .i64 60000, .int .i64 3600000, .int .i64 86400000] 3))) := Lib.hid (HB.out.trans ((below_alloc _).mono HB.out.size))
                  clear HB
                  generalize World.alloc _ _ = w2 at cg HB2 ⊢
                  have hq1 : Int.tdiv 4398046511104 g = 1221679 := by rw [hg]; decide
                  have hg0 : ¬ g = 0 := by omega
                  have HG : Hid (g = ((3600000 : Nat) : Int)) := Lib.hid (by rw [hg]; decide)
                  clear hg
                  go_wp2
                  all_goals
                    go_roundw
                    case rel =>
                      refine ⟨HSP.out _ ?_, HB2⟩
                      rw [HX.out]
                      by_cases h5 : (1221679 : Int) < (n : Int)
                      · by_cases hc : 4398046511104 < wrap64 ((T : Int) + wrap64 (1221679 * g))
                        · first | (exfalso; omega) | exact fin1 (q := 1221679) (W := 3600000) HG.out hT (by decide) (by decide) h5 hc
                        · first | (exfalso; omega) | exact fin2 (q := 1221679) (W := 3600000) HG.out hT (by decide) (by decide) h5 hc
                      · by_cases hc : 4398046511104 < wrap64 ((T : Int) + wrap64 ((n : Int) * g))
                        · first | (exfalso; omega) | exact fin3 (q := 1221679) (W := 3600000) (q' := 1221679) HG.out hT (by decide) (by decide) h5 hc
                        · first | (exfalso; omega) | exact fin4 (q := 1221679) (W := 3600000) (q' := 1221679) HG.out hT (by decide) (by decide) h5 hc
                    case measure => simp [intOf]; omega
              · have hu := u3 hc0
                have hc9 : (c.toNat : Int) = 115 := by omega
                clear u1 u2 u3 u4 u5 hc0
                by_cases hrr : r ≤ 1
                · have hDn : Hid (D = none) := Lib.hid (T3.out hEl (.inr (by rw [hu]; exact (worth_le (by omega) (by omega)).2 hrr)))
                  have hrr1 : (r : Int) ≤ 1 := by omega
                  clear hu hrr
                  go_wp2_with (go_at_call 24; refine (HRUN.out _).mono ?_; rintro e w' ⟨⟨n', hn', rfl, hv'⟩, rfl⟩; obtain rfl : n = n' := Hn.out.trans (hv' V rfl).symm; clear hn' hv')
                  go_ret2
                  exact ⟨span_none hDn.out rfl, HB.out⟩
                · have hT4 := T4.out V 1000 1 rfl hEl hu (by omega) (by have := (worth_le (r := 1) (R := r) (by omega) (by omega)); have h9 : ¬ worthF r ≤ worthF 1 := fun h => hrr ((worth_le (by omega) (by omega)).1 h); have h8 : worthF 1 = 1000 := rfl; omega)
                  have hTI : TimI s (E + 1) (worthF 1) (S + V * 1000) D := by
                    have h8 : worthF 1 = 1000 := rfl
                    rw [h8]
                    exact hT4.1
                  have HT4 := Lib.hid (And.intro hTI hT4.2.1)
                  clear hTI
                  obtain ⟨X, hXe⟩ : ∃ X, X = min (T + (if 4398046511 < n then 4398046511 else n) * 1000) farN := ⟨_, rfl⟩
                  have HSF := Lib.hid (sum_far (q := 4398046511) (w := 1000) (V := V) hT Hc.out Hn.out (by omega) (by omega) (by simp [farN]) hXe)
                  have hXb : X ≤ farN := by omega
                  have HSP : Hid (∀ y : Int, y = (X : Int) → Hid (SpL s D (.int .i64 ((E : Int) + 1)) (.int .i64 y) (.int .i64 1))) := Lib.hid fun y hy => spl_mk (k' := E + 1) (S' := S + V * 1000) (T' := X) (r' := 1) HT4.out.1 HT4.out.2 (by omega) hXb HSF.out (by omega) hy
                  clear HSF HT4
                  have HX := Lib.hid hXe
                  clear hXe
                  have hrr1 : ¬ (r : Int) ≤ 1 := by omega
                  have hEz := hT4.2.1
                  have hE0 := hT4.2.2
                  clear hu hrr hT4 T3 T4
                  go_upto_region 27 with (go_at_call 24; refine (HRUN.out _).mono ?_; rintro e w' ⟨⟨n', hn', rfl, hv'⟩, rfl⟩; obtain rfl : n = n' := Hn.out.trans (hv' V rfl).symm; clear hn' hv')
                  obtain ⟨g, hg⟩ : ∃ g : Int, g = 1000 := ⟨_, rfl⟩
                  have cg : (w'.alloc (.cells #[.int .i64 1, .int .i64 1000, .int .i64 60000, .int .i64 3600000, .int .i64 86400000] 3)).cell? ⟨w'.heap.size, 1, none⟩ = some (.int .i64 g) := by rw [hg]; simp
                  have HB2 : Hid (Below w.heap.size w (w'.alloc (.cells #[.int .i64 1, .int .i64 1000, .int .i64 60000, .int .i64 3600000, .int .i64 86400000] 3))) := Lib.hid (HB.out.trans ((below_alloc _).mono HB.out.size))
                  clear HB
                  generalize World.alloc _ _ = w2 at cg HB2 ⊢
                  have hq1 : Int.tdiv 4398046511104 g = 4398046511 := by rw [hg]; decide
                  have hg0 : ¬ g = 0 := by omega
                  have HG : Hid (g = ((1000 : Nat) : Int)) := Lib.hid (by rw [hg]; decide)
                  clear hg
                  go_wp2
                  all_goals
                    go_roundw
                    case rel =>
                      refine ⟨HSP.out _ ?_, HB2⟩
                      rw [HX.out]
                      by_cases h5 : (4398046511 : Int) < (n : Int)
                      · by_cases hc : 4398046511104 < wrap64 ((T : Int) + wrap64 (4398046511 * g))
                        · first | (exfalso; omega) | exact fin1 (q := 4398046511) (W := 1000) HG.out hT (by decide) (by decide) h5 hc
                        · first | (exfalso; omega) | exact fin2 (q := 4398046511) (W := 1000) HG.out hT (by decide) (by decide) h5 hc
                      · by_cases hc : 4398046511104 < wrap64 ((T : Int) + wrap64 ((n : Int) * g))
                        · first | (exfalso; omega) | exact fin3 (q := 4398046511) (W := 1000) (q' := 4398046511) HG.out hT (by decide) (by decide) h5 hc
                        · first | (exfalso; omega) | exact fin4 (q := 4398046511) (W := 1000) (q' := 4398046511) HG.out hT (by decide) (by decide) h5 hc
                    case measure => simp [intOf]; omega
              · have hc9 : (c.toNat : Int) = 109 := by omega
                obtain ⟨u6, u7⟩ := u4 hc0
                clear u1 u2 u3 u4 u5 hc0
                by_cases hE1 : E + 1 < s.size
                · have hE2 : (E : Int) + 1 < (s.size : Int) := by omega
                  have hu0 := u7 hE1
                  obtain ⟨d, hd⟩ : ∃ d, s[E + 1] = d := ⟨_, rfl⟩
                  rw [hd] at hu0
                  clear u6 u7
                  by_cases hd5 : d.toNat = 115
                  · have hd9 : ((d.toNat : Int) == 115) = true := by simp; omega
                    have hu : unitF (s.data.toList.drop E) = (1, 2) := by rw [hu0, if_pos hd5]
                    clear hu0 hd5
                    by_cases hrr : r ≤ 0
                    · have hDn : Hid (D = none) := Lib.hid (T3.out hEl (.inr (by rw [hu]; exact (worth_le (by omega) (by omega)).2 hrr)))
                      have hrr1 : (r : Int) ≤ 0 := by omega
                      clear hu hrr
                      go_wp2_with (go_at_call 24; refine (HRUN.out _).mono ?_; rintro e w' ⟨⟨n', hn', rfl, hv'⟩, rfl⟩; obtain rfl : n = n' := Hn.out.trans (hv' V rfl).symm; clear hn' hv')
                      go_ret2
                      exact ⟨span_none hDn.out rfl, HB.out⟩
                    · have hT4 := T4.out V 1 2 rfl hEl hu (by omega) (by have := (worth_le (r := 0) (R := r) (by omega) (by omega)); have h9 : ¬ worthF r ≤ worthF 0 := fun h => hrr ((worth_le (by omega) (by omega)).1 h); have h8 : worthF 0 = 1 := rfl; omega)
                      have hTI : TimI s (E + 2) (worthF 0) (S + V * 1) D := by
                        have h8 : worthF 0 = 1 := rfl
                        rw [h8]
                        exact hT4.1
                      have HT4 := Lib.hid (And.intro hTI hT4.2.1)
                      clear hTI
                      obtain ⟨X, hXe⟩ : ∃ X, X = min (T + (if 4398046511104 < n then 4398046511104 else n) * 1) farN := ⟨_, rfl⟩
                      have HSF := Lib.hid (sum_far (q := 4398046511104) (w := 1) (V := V) hT Hc.out Hn.out (by omega) (by omega) (by simp [farN]) hXe)
                      have hXb : X ≤ farN := by omega
                      have HSP : Hid (∀ y : Int, y = (X : Int) → Hid (SpL s D (.int .i64 ((E : Int) + 2)) (.int .i64 y) (.int .i64 0))) := Lib.hid fun y hy => spl_mk (k' := E + 2) (S' := S + V * 1) (T' := X) (r' := 0) HT4.out.1 HT4.out.2 (by omega) hXb HSF.out (by omega) hy
                      clear HSF HT4
                      have HX := Lib.hid hXe
                      clear hXe
                      have hrr1 : ¬ (r : Int) ≤ 0 := by omega
                      have hEz := hT4.2.1
                      have hE0 := hT4.2.2
                      clear hu hrr hT4 T3 T4
                      go_upto_region 27 with (go_at_call 24; refine (HRUN.out _).mono ?_; rintro e w' ⟨⟨n', hn', rfl, hv'⟩, rfl⟩; obtain rfl : n = n' := Hn.out.trans (hv' V rfl).symm; clear hn' hv')
                      obtain ⟨g, hg⟩ : ∃ g : Int, g = 1 := ⟨_, rfl⟩
                      have cg : (w'.alloc (.cells #[.int .i64 1, .int .i64 1000, .int .i64 60000, .int .i64 3600000, .int .i64 86400000] 3)).cell? ⟨w'.heap.size, 0, none⟩ = some (.int .i64 g) := by rw [hg]; simp
                      have HB2 : Hid (Below w.heap.size w (w'.alloc (.cells #[.int .i64 1, .int .i64 1000, .int .i64 60000, .int .i64 3600000, .int .i64 86400000] 3))) := Lib.hid (HB.out.trans ((below_alloc _).mono HB.out.size))
                      clear HB
                      generalize World.alloc _ _ = w2 at cg HB2 ⊢
                      have hq1 : Int.tdiv 4398046511104 g = 4398046511104 := by rw [hg]; decide
                      have hg0 : ¬ g = 0 := by omega
                      have HG : Hid (g = ((1 : Nat) : Int)) := Lib.hid (by rw [hg]; decide)
                      clear hg
                      go_wp2
                      all_goals
                        go_roundw
                        case rel =>
                          refine ⟨HSP.out _ ?_, HB2⟩
                          rw [HX.out]
                          by_cases h5 : (4398046511104 : Int) < (n : Int)
                          · by_cases hc : 4398046511104 < wrap64 ((T : Int) + wrap64 (4398046511104 * g))
                            · first | (exfalso; omega) | exact fin1 (q := 4398046511104) (W := 1) HG.out hT (by decide) (by decide) h5 hc
                            · first | (exfalso; omega) | exact fin2 (q := 4398046511104) (W := 1) HG.out hT (by decide) (by decide) h5 hc
                          · by_cases hc : 4398046511104 < wrap64 ((T : Int) + wrap64 ((n : Int) * g))
                            · first | (exfalso; omega) | exact fin3 (q := 4398046511104) (W := 1) (q' := 4398046511104) HG.out hT (by decide) (by decide) h5 hc
                            · first | (exfalso; omega) | exact fin4 (q := 4398046511104) (W := 1) (q' := 4398046511104) HG.out hT (by decide) (by decide) h5 hc
                        case measure => simp [intOf]; omega
                  · have hd9 : ((d.toNat : Int) == 115) = false := by simp; omega
                    have hu : unitF (s.data.toList.drop E) = (60000, 1) := by rw [hu0, if_neg hd5]
                    clear hu0 hd5
                    by_cases hrr : r ≤ 2
                    · have hDn : Hid (D = none) := Lib.hid (T3.out hEl (.inr (by rw [hu]; exact (worth_le (by omega) (by omega)).2 hrr)))
                      have hrr1 : (r : Int) ≤ 2 := by omega
                      clear hu hrr
                      go_wp2_with (go_at_call 24; refine (HRUN.out _).mono ?_; rintro e w' ⟨⟨n', hn', rfl, hv'⟩, rfl⟩; obtain rfl : n = n' := Hn.out.trans (hv' V rfl).symm; clear hn' hv')
                      go_ret2
                      exact ⟨span_none hDn.out rfl, HB.out⟩
                    · have hT4 := T4.out V 60000 1 rfl hEl hu (by omega) (by have := (worth_le (r := 2) (R := r) (by omega) (by omega)); have h9 : ¬ worthF r ≤ worthF 2 := fun h => hrr ((worth_le (by omega) (by omega)).1 h); have h8 : worthF 2 = 60000 := rfl; omega)
                      have hTI : TimI s (E + 1) (worthF 2) (S + V * 60000) D := by
                        have h8 : worthF 2 = 60000 := rfl
                        rw [h8]
                        exact hT4.1
                      have HT4 := Lib.hid (And.intro hTI hT4.2.1)
                      clear hTI
                      obtain ⟨X, hXe⟩ : ∃ X, X = min (T + (if 73300775 < n then 73300775 else n) * 60000) farN := ⟨_, rfl⟩
                      have HSF := Lib.hid (sum_far (q := 73300775) (w := 60000) (V := V) hT Hc.out Hn.out (by omega) (by omega) (by simp [farN]) hXe)
                      have hXb : X ≤ farN := by omega
                      have HSP : Hid (∀ y : Int, y = (X : Int) → Hid (SpL s D (.int .i64 ((E : Int) + 1)) (.int .i64 y) (.int .i64 2))) := Lib.hid fun y hy => spl_mk (k' := E + 1) (S' := S + V * 60000) (T' := X) (r' := 2) HT4.out.1 HT4.out.2 (by omega) hXb HSF.out (by omega) hy
                      clear HSF HT4
                      have HX := Lib.hid hXe
                      clear hXe
                      have hrr1 : ¬ (r : Int) ≤ 2 := by omega
                      have hEz := hT4.2.1
                      have hE0 := hT4.2.2
                      clear hu hrr hT4 T3 T4
                      go_upto_region 27 with (go_at_call 24; refine (HRUN.out _).mono ?_; rintro e w' ⟨⟨n', hn', rfl, hv'⟩, rfl⟩; obtain rfl : n = n' := Hn.out.trans (hv' V rfl).symm; clear hn' hv')
                      obtain ⟨g, hg⟩ : ∃ g : Int, g = 60000 := ⟨_, rfl⟩
                      have cg : (w'.alloc (.cells #[.int .i64 1, .int .i64 1000, .int .i64 60000, .int .i64 3600000, .int .i64 86400000] 3)).cell? ⟨w'.heap.size, 2, none⟩ = some (.int .i64 g) := by rw [hg]; simp
                      have HB2 : Hid (Below w.heap.size w (w'.alloc (.cells #[.int .i64 1, .int .i64 1000, .int .i64 60000, .int .i64 3600000, .int .i64 86400000] 3))) := Lib.hid (HB.out.trans ((below_alloc _).mono HB.out.size))
                      clear HB
                      generalize World.alloc _ _ = w2 at cg HB2 ⊢
                      have hq1 : Int.tdiv 4398046511104 g = 73300775 := by rw [hg]; decide
                      have hg0 : ¬ g = 0 := by omega
                      have HG : Hid (g = ((60000 : Nat) : Int)) := Lib.hid (by rw [hg]; decide)
                      clear hg
                      go_wp2
                      all_goals
                        go_roundw
                        case rel =>
                          refine ⟨HSP.out _ ?_, HB2⟩
                          rw [HX.out]
                          by_cases h5 : (73300775 : Int) < (n : Int)
                          · by_cases hc : 4398046511104 < wrap64 ((T : Int) + wrap64 (73300775 * g))
                            · first | (exfalso; omega) | exact fin1 (q := 73300775) (W := 60000) HG.out hT (by decide) (by decide) h5 hc
                            · first | (exfalso; omega) | exact fin2 (q := 73300775) (W := 60000) HG.out hT (by decide) (by decide) h5 hc
                          · by_cases hc : 4398046511104 < wrap64 ((T : Int) + wrap64 ((n : Int) * g))
                            · first | (exfalso; omega) | exact fin3 (q := 73300775) (W := 60000) (q' := 73300775) HG.out hT (by decide) (by decide) h5 hc
                            · first | (exfalso; omega) | exact fin4 (q := 73300775) (W := 60000) (q' := 73300775) HG.out hT (by decide) (by decide) h5 hc
                        case measure => simp [intOf]; omega
                · have hE2 : ¬ (E : Int) + 1 < (s.size : Int) := by omega
                  have hu := u6 hE1
                  clear u6 u7
                  by_cases hrr : r ≤ 2
                  · have hDn : Hid (D = none) := Lib.hid (T3.out hEl (.inr (by rw [hu]; exact (worth_le (by omega) (by omega)).2 hrr)))
                    have hrr1 : (r : Int) ≤ 2 := by omega
                    clear hu hrr
                    go_wp2_with (go_at_call 24; refine (HRUN.out _).mono ?_; rintro e w' ⟨⟨n', hn', rfl, hv'⟩, rfl⟩; obtain rfl : n = n' := Hn.out.trans (hv' V rfl).symm; clear hn' hv')
                    go_ret2
                    exact ⟨span_none hDn.out rfl, HB.out⟩
                  · have hT4 := T4.out V 60000 1 rfl hEl hu (by omega) (by have := (worth_le (r := 2) (R := r) (by omega) (by omega)); have h9 : ¬ worthF r ≤ worthF 2 := fun h => hrr ((worth_le (by omega) (by omega)).1 h); have h8 : worthF 2 = 60000 := rfl; omega)
                    have hTI : TimI s (E + 1) (worthF 2) (S + V * 60000) D := by
                      have h8 : worthF 2 = 60000 := rfl
                      rw [h8]
                      exact hT4.1
                    have HT4 := Lib.hid (And.intro hTI hT4.2.1)
                    clear hTI
                    obtain ⟨X, hXe⟩ : ∃ X, X = min (T + (if 73300775 < n then 73300775 else n) * 60000) farN := ⟨_, rfl⟩
                    have HSF := Lib.hid (sum_far (q := 73300775) (w := 60000) (V := V) hT Hc.out Hn.out (by omega) (by omega) (by simp [farN]) hXe)
                    have hXb : X ≤ farN := by omega
                    have HSP : Hid (∀ y : Int, y = (X : Int) → Hid (SpL s D (.int .i64 ((E : Int) + 1)) (.int .i64 y) (.int .i64 2))) := Lib.hid fun y hy => spl_mk (k' := E + 1) (S' := S + V * 60000) (T' := X) (r' := 2) HT4.out.1 HT4.out.2 (by omega) hXb HSF.out (by omega) hy
                    clear HSF HT4
                    have HX := Lib.hid hXe
                    clear hXe
                    have hrr1 : ¬ (r : Int) ≤ 2 := by omega
                    have hEz := hT4.2.1
                    have hE0 := hT4.2.2
                    clear hu hrr hT4 T3 T4
                    go_upto_region 27 with (go_at_call 24; refine (HRUN.out _).mono ?_; rintro e w' ⟨⟨n', hn', rfl, hv'⟩, rfl⟩; obtain rfl : n = n' := Hn.out.trans (hv' V rfl).symm; clear hn' hv')
                    obtain ⟨g, hg⟩ : ∃ g : Int, g = 60000 := ⟨_, rfl⟩
                    have cg : (w'.alloc (.cells #[.int .i64 1, .int .i64 1000, .int .i64 60000, .int .i64 3600000, .int .i64 86400000] 3)).cell? ⟨w'.heap.size, 2, none⟩ = some (.int .i64 g) := by rw [hg]; simp
                    have HB2 : Hid (Below w.heap.size w (w'.alloc (.cells #[.int .i64 1, .int .i64 1000, .int .i64 60000, .int .i64 3600000, .int .i64 86400000] 3))) := Lib.hid (HB.out.trans ((below_alloc _).mono HB.out.size))
                    clear HB
                    generalize World.alloc _ _ = w2 at cg HB2 ⊢
                    have hq1 : Int.tdiv 4398046511104 g = 73300775 := by rw [hg]; decide
                    have hg0 : ¬ g = 0 := by omega
                    have HG : Hid (g = ((60000 : Nat) : Int)) := Lib.hid (by rw [hg]; decide)
                    clear hg
                    go_wp2
                    all_goals
                      go_roundw
                      case rel =>
                        refine ⟨HSP.out _ ?_, HB2⟩
                        rw [HX.out]
                        by_cases h5 : (73300775 : Int) < (n : Int)
                        · by_cases hc : 4398046511104 < wrap64 ((T : Int) + wrap64 (73300775 * g))
                          · first | (exfalso; omega) | exact fin1 (q := 73300775) (W := 60000) HG.out hT (by decide) (by decide) h5 hc
                          · first | (exfalso; omega) | exact fin2 (q := 73300775) (W := 60000) HG.out hT (by decide) (by decide) h5 hc
                        · by_cases hc : 4398046511104 < wrap64 ((T : Int) + wrap64 ((n : Int) * g))
                          · first | (exfalso; omega) | exact fin3 (q := 73300775) (W := 60000) (q' := 73300775) HG.out hT (by decide) (by decide) h5 hc
                          · first | (exfalso; omega) | exact fin4 (q := 73300775) (W := 60000) (q' := 73300775) HG.out hT (by decide) (by decide) h5 hc
                      case measure => simp [intOf]; omega
              · have hDn : Hid (D = none) := Lib.hid (T3.out hEl (.inl (u5 hc1 hc2 hc3 hc4)))
                have h1 : ((c.toNat : Int) == 100) = false := by simp; omega
                have h2 : ((c.toNat : Int) == 104) = false := by simp; omega
                have h3 : ((c.toNat : Int) == 115) = false := by simp; omega
                have h4 : ((c.toNat : Int) == 109) = false := by simp; omega
                clear u1 u2 u3 u4 u5 hc1 hc2 hc3 hc4 T3 T4
                go_wp2_with (go_at_call 24; refine (HRUN.out _).mono ?_; rintro e w' ⟨⟨n', hn', rfl, hv'⟩, rfl⟩; obtain rfl : n = n' := Hn.out.trans (hv' V rfl).symm; clear hn' hv')
                go_ret2
                exact ⟨span_none hDn.out rfl, HB.out⟩
        · have hD : Hid (D = some S) := Lib.hid (tim_end hI (by omega))
          have Hc := Lib.hid hc
          clear hI hc
          go_wp2
          go_ret2
          refine ⟨⟨T, by unfold farN at hT; omega, ?_, fun V hV => ?_⟩, HB.out⟩
          · rw [hD.out]; rfl
          · rw [hD.out] at hV
            injection hV with hV
            rw [← hV]
            exact Hc.out
  · obtain ⟨q1, q2, q3⟩ := timeL_start s (k := 2) (.inl ⟨rfl, hp⟩)
    have g2 := hb2 q3
    have Q1 := Lib.hid q1
    have Q2 := Lib.hid q2
    have g0 : ¬ (s.size : Int) < 2 := by omega
    rcases (show ((5 : Int) ≤ (s.size : Int) ∧ ((s.extract 0 5).toList == [116, 105, 109, 101, 35]) = false) ∨ (¬ (5 : Int) ≤ (s.size : Int) ∧ True) by
      by_cases h : 5 ≤ s.size
      · exact .inl ⟨by omega, hb5 h⟩
      · exact .inr ⟨by omega, trivial⟩) with ⟨g4, g5⟩ | ⟨g4, _⟩
    all_goals
     clear q1 q2 hp hp' hb5 hb2
     by_cases hz : s.size = 2
     · have hz1 : ((2 : Int) == (s.size : Int)) = true := by simp; omega
       go_enter Tryd.func23, Tryd.ntmps23
       go_wp2
       go_ret2
       exact ⟨span_none (Q2.out hz) rfl, Below.refl _ _⟩
     · have hz1 : ((2 : Int) == (s.size : Int)) = false := by simp; omega
       have HI : Hid (SpL s (timeL s.data.toList) (.int .i64 2) (.int .i64 0) (.int .i64 5)) := Lib.hid ⟨2, 0, 0, 5, q3, rfl, rfl, rfl, by omega, by omega, ⟨fun _ => rfl, fun h => by omega, by omega⟩, Q1.out (by omega)⟩
       clear Q1 Q2 hz
       generalize timeL s.data.toList = D at HI ⊢
       go_enter Tryd.func23, Tryd.ntmps23
       go_wp2
       go_loopw [4, 5, 6] (fun a u l wr => Hid (SpL s D a u l) ∧ Hid (Below w.heap.size w wr)) (fun a _ _ _ => s.size - (intOf a).toNat)
       case atStart => exact ⟨HI, Lib.hid (Below.refl _ _)⟩
       case round =>
         obtain ⟨hS, HB⟩ := hrel
         obtain ⟨k, S, T, r, hk, rfl, rfl, rfl, hr, hT, hc, hI⟩ := hS.out
         clear hS HI
         by_cases hlt : k < s.size
         · obtain ⟨E, hE⟩ : ∃ E, k + (tw 10 s k).length = E := ⟨_, rfl⟩
           obtain ⟨X, hX⟩ : ∃ X, digF 10 (tw 10 s k) 0 false = X := ⟨_, rfl⟩
           obtain ⟨t1, t2, t3, t4⟩ := tim_step hI hlt hE hX
           have hEle : E ≤ s.size := by have := tw_len 10 s k hk; omega
           have hkE : k ≤ E := by omega
           have hrun : ∀ W, Calls Tryd.prog 24 #[.string s, .int .i64 (k : Int), .int .i64 10] W fun e w' => RunR e E X ∧ w' = W := fun W => by
             have := run_at s k W HS.out hk
             rw [hE, hX] at this
             exact this
           have HRUN := Lib.hid hrun
           have T1 := Lib.hid t1
           have T2 := Lib.hid t2
           have T3 := Lib.hid t3
           have T4 := Lib.hid t4
           have Hc := Lib.hid hc
           clear hrun t1 t2 t3 t4 hE hX hI hc
           cases X with
           | none =>
             have hDn := Lib.hid (T1.out rfl)
             clear T1 T2 T3 T4
             go_wp2_with (go_at_call 24; refine (HRUN.out _).mono ?_; rintro e w' ⟨⟨n', hn', rfl, hv'⟩, rfl⟩; clear hv')
             go_ret2
             exact ⟨span_none hDn.out rfl, HB.out⟩
           | some V =>
             obtain ⟨n, hn⟩ : ∃ n, n = min V farN := ⟨_, rfl⟩
             have hnb : n ≤ farN := by omega
             have Hn := Lib.hid hn
             clear hn T1
             have hfar : farN = 4398046511104 := rfl
             by_cases hEs : E = s.size
             · have hDn := Lib.hid (T2.out hEs)
               have hEs1 : ((E : Int) == (s.size : Int)) = true := by simp; omega
               clear T2 T3 T4 hEs
               go_wp2_with (go_at_call 24; refine (HRUN.out _).mono ?_; rintro e w' ⟨⟨n', hn', rfl, hv'⟩, rfl⟩; obtain rfl : n = n' := Hn.out.trans (hv' V rfl).symm; clear hn' hv')
               go_ret2
               exact ⟨span_none hDn.out rfl, HB.out⟩
             · have hEl : E < s.size := by omega
               have hEs1 : ((E : Int) == (s.size : Int)) = false := by simp; omega
               clear T2 hEs
               obtain ⟨c, hcE⟩ : ∃ c, s[E] = c := ⟨_, rfl⟩
               obtain ⟨u1, u2, u3, u4, u5⟩ := unit_at hEl hcE
               rcases (show c.toNat = 100 ∨ c.toNat = 104 ∨ c.toNat = 115 ∨ c.toNat = 109 ∨ (c.toNat ≠ 100 ∧ c.toNat ≠ 104 ∧ c.toNat ≠ 115 ∧ c.toNat ≠ 109) by omega) with hc0 | hc0 | hc0 | hc0 | ⟨hc1, hc2, hc3, hc4⟩
               · have hu := u1 hc0
                 have hc9 : (c.toNat : Int) = 100 := by omega
                 clear u1 u2 u3 u4 u5 hc0
                 by_cases hrr : r ≤ 4
                 · have hDn : Hid (D = none) := Lib.hid (T3.out hEl (.inr (by rw [hu]; exact (worth_le (by omega) (by omega)).2 hrr)))
                   have hrr1 : (r : Int) ≤ 4 := by omega
                   clear hu hrr
                   go_wp2_with (go_at_call 24; refine (HRUN.out _).mono ?_; rintro e w' ⟨⟨n', hn', rfl, hv'⟩, rfl⟩; obtain rfl : n = n' := Hn.out.trans (hv' V rfl).symm; clear hn' hv')
                   go_ret2
                   exact ⟨span_none hDn.out rfl, HB.out⟩
                 · have hT4 := T4.out V 86400000 1 rfl hEl hu (by omega) (by have := (worth_le (r := 4) (R := r) (by omega) (by omega)); have h9 : ¬ worthF r ≤ worthF 4 := fun h => hrr ((worth_le (by omega) (by omega)).1 h); have h8 : worthF 4 = 86400000 := rfl; omega)
                   have hTI : TimI s (E + 1) (worthF 4) (S + V * 86400000) D := by
                     have h8 : worthF 4 = 86400000 := rfl
                     rw [h8]
                     exact hT4.1
                   have HT4 := Lib.hid (And.intro hTI hT4.2.1)
                   clear hTI
                   obtain ⟨X, hXe⟩ : ∃ X, X = min (T + (if 50903 < n then 50903 else n) * 86400000) farN := ⟨_, rfl⟩
                   have HSF := Lib.hid (sum_far (q := 50903) (w := 86400000) (V := V) hT Hc.out Hn.out (by omega) (by omega) (by simp [farN]) hXe)
                   have hXb : X ≤ farN := by omega
                   have HSP : Hid (∀ y : Int, y = (X : Int) → Hid (SpL s D (.int .i64 ((E : Int) + 1)) (.int .i64 y) (.int .i64 4))) := Lib.hid fun y hy => spl_mk (k' := E + 1) (S' := S + V * 86400000) (T' := X) (r' := 4) HT4.out.1 HT4.out.2 (by omega) hXb HSF.out (by omega) hy
                   clear HSF HT4
                   have HX := Lib.hid hXe
                   clear hXe
                   have hrr1 : ¬ (r : Int) ≤ 4 := by omega
                   have hEz := hT4.2.1
                   have hE0 := hT4.2.2
                   clear hu hrr hT4 T3 T4
                   go_upto_region 27 with (go_at_call 24; refine (HRUN.out _).mono ?_; rintro e w' ⟨⟨n', hn', rfl, hv'⟩, rfl⟩; obtain rfl : n = n' := Hn.out.trans (hv' V rfl).symm; clear hn' hv')
                   obtain ⟨g, hg⟩ : ∃ g : Int, g = 86400000 := ⟨_, rfl⟩
                   have cg : (w'.alloc (.cells #[.int .i64 1, .int .i64 1000, .int .i64 60000, .int .i64 3600000, .int .i64 86400000] 3)).cell? ⟨w'.heap.size, 4, none⟩ = some (.int .i64 g) := by rw [hg]; simp
                   have HB2 : Hid (Below w.heap.size w (w'.alloc (.cells #[.int .i64 1, .int .i64 1000, .int .i64 60000, .int .i64 3600000, .int .i64 86400000] 3))) := Lib.hid (HB.out.trans ((below_alloc _).mono HB.out.size))
                   clear HB
                   generalize World.alloc _ _ = w2 at cg HB2 ⊢
                   have hq1 : Int.tdiv 4398046511104 g = 50903 := by rw [hg]; decide
                   have hg0 : ¬ g = 0 := by omega
                   have HG : Hid (g = ((86400000 : Nat) : Int)) := Lib.hid (by rw [hg]; decide)
                   clear hg
                   go_wp2
                   all_goals
                     go_roundw
                     case rel =>
                       refine ⟨HSP.out _ ?_, HB2⟩
                       rw [HX.out]
                       by_cases h5 : (50903 : Int) < (n : Int)
                       · by_cases hc : 4398046511104 < wrap64 ((T : Int) + wrap64 (50903 * g))
                         · first | (exfalso; omega) | exact fin1 (q := 50903) (W := 86400000) HG.out hT (by decide) (by decide) h5 hc
                         · first | (exfalso; omega) | exact fin2 (q := 50903) (W := 86400000) HG.out hT (by decide) (by decide) h5 hc
                       · by_cases hc : 4398046511104 < wrap64 ((T : Int) + wrap64 ((n : Int) * g))
                         · first | (exfalso; omega) | exact fin3 (q := 50903) (W := 86400000) (q' := 50903) HG.out hT (by decide) (by decide) h5 hc
                         · first | (exfalso; omega) | exact fin4 (q := 50903) (W := 86400000) (q' := 50903) HG.out hT (by decide) (by decide) h5 hc
                     case measure => simp [intOf]; omega
               · have hu := u2 hc0
                 have hc9 : (c.toNat : Int) = 104 := by omega
                 clear u1 u2 u3 u4 u5 hc0
                 by_cases hrr : r ≤ 3
                 · have hDn : Hid (D = none) := Lib.hid (T3.out hEl (.inr (by rw [hu]; exact (worth_le (by omega) (by omega)).2 hrr)))
                   have hrr1 : (r : Int) ≤ 3 := by omega
                   clear hu hrr
                   go_wp2_with (go_at_call 24; refine (HRUN.out _).mono ?_; rintro e w' ⟨⟨n', hn', rfl, hv'⟩, rfl⟩; obtain rfl : n = n' := Hn.out.trans (hv' V rfl).symm; clear hn' hv')
                   go_ret2
                   exact ⟨span_none hDn.out rfl, HB.out⟩
                 · have hT4 := T4.out V 3600000 1 rfl hEl hu (by omega) (by have := (worth_le (r := 3) (R := r) (by omega) (by omega)); have h9 : ¬ worthF r ≤ worthF 3 := fun h => hrr ((worth_le (by omega) (by omega)).1 h); have h8 : worthF 3 = 3600000 := rfl; omega)
                   have hTI : TimI s (E + 1) (worthF 3) (S + V * 3600000) D := by
                     have h8 : worthF 3 = 3600000 := rfl
                     rw [h8]
                     exact hT4.1
                   have HT4 := Lib.hid (And.intro hTI hT4.2.1)
                   clear hTI
                   obtain ⟨X, hXe⟩ : ∃ X, X = min (T + (if 1221679 < n then 1221679 else n) * 3600000) farN := ⟨_, rfl⟩
                   have HSF := Lib.hid (sum_far (q := 1221679) (w := 3600000) (V := V) hT Hc.out Hn.out (by omega) (by omega) (by simp [farN]) hXe)
                   have hXb : X ≤ farN := by omega
                   have HSP : Hid (∀ y : Int, y = (X : Int) → Hid (SpL s D (.int .i64 ((E : Int) + 1)) (.int .i64 y) (.int .i64 3))) := Lib.hid fun y hy => spl_mk (k' := E + 1) (S' := S + V * 3600000) (T' := X) (r' := 3) HT4.out.1 HT4.out.2 (by omega) hXb HSF.out (by omega) hy
                   clear HSF HT4
                   have HX := Lib.hid hXe
                   clear hXe
                   have hrr1 : ¬ (r : Int) ≤ 3 := by omega
                   have hEz := hT4.2.1
                   have hE0 := hT4.2.2
                   clear hu hrr hT4 T3 T4
                   go_upto_region 27 with (go_at_call 24; refine (HRUN.out _).mono ?_; rintro e w' ⟨⟨n', hn', rfl, hv'⟩, rfl⟩; obtain rfl : n = n' := Hn.out.trans (hv' V rfl).symm; clear hn' hv')
                   obtain ⟨g, hg⟩ : ∃ g : Int, g = 3600000 := ⟨_, rfl⟩
                   have cg : (w'.alloc (.cells #[.int .i64 1, .int .i64 1000, .int .i64 60000, .int .i64 3600000, .int .i64 86400000] 3)).cell? ⟨w'.heap.size, 3, none⟩ = some (.int .i64 g) := by rw [hg]; simp
                   have HB2 : Hid (Below w.heap.size w (w'.alloc (.cells #[.int .i64 1, .int .i64 1000, .int .i64 60000, .int .i64 3600000, .int .i64 86400000] 3))) := Lib.hid (HB.out.trans ((below_alloc _).mono HB.out.size))
                   clear HB
                   generalize World.alloc _ _ = w2 at cg HB2 ⊢
                   have hq1 : Int.tdiv 4398046511104 g = 1221679 := by rw [hg]; decide
                   have hg0 : ¬ g = 0 := by omega
                   have HG : Hid (g = ((3600000 : Nat) : Int)) := Lib.hid (by rw [hg]; decide)
                   clear hg
                   go_wp2
                   all_goals
                     go_roundw
                     case rel =>
                       refine ⟨HSP.out _ ?_, HB2⟩
                       rw [HX.out]
                       by_cases h5 : (1221679 : Int) < (n : Int)
                       · by_cases hc : 4398046511104 < wrap64 ((T : Int) + wrap64 (1221679 * g))
                         · first | (exfalso; omega) | exact fin1 (q := 1221679) (W := 3600000) HG.out hT (by decide) (by decide) h5 hc
                         · first | (exfalso; omega) | exact fin2 (q := 1221679) (W := 3600000) HG.out hT (by decide) (by decide) h5 hc
                       · by_cases hc : 4398046511104 < wrap64 ((T : Int) + wrap64 ((n : Int) * g))
                         · first | (exfalso; omega) | exact fin3 (q := 1221679) (W := 3600000) (q' := 1221679) HG.out hT (by decide) (by decide) h5 hc
                         · first | (exfalso; omega) | exact fin4 (q := 1221679) (W := 3600000) (q' := 1221679) HG.out hT (by decide) (by decide) h5 hc
                     case measure => simp [intOf]; omega
               · have hu := u3 hc0
                 have hc9 : (c.toNat : Int) = 115 := by omega
                 clear u1 u2 u3 u4 u5 hc0
                 by_cases hrr : r ≤ 1
                 · have hDn : Hid (D = none) := Lib.hid (T3.out hEl (.inr (by rw [hu]; exact (worth_le (by omega) (by omega)).2 hrr)))
                   have hrr1 : (r : Int) ≤ 1 := by omega
                   clear hu hrr
                   go_wp2_with (go_at_call 24; refine (HRUN.out _).mono ?_; rintro e w' ⟨⟨n', hn', rfl, hv'⟩, rfl⟩; obtain rfl : n = n' := Hn.out.trans (hv' V rfl).symm; clear hn' hv')
                   go_ret2
                   exact ⟨span_none hDn.out rfl, HB.out⟩
                 · have hT4 := T4.out V 1000 1 rfl hEl hu (by omega) (by have := (worth_le (r := 1) (R := r) (by omega) (by omega)); have h9 : ¬ worthF r ≤ worthF 1 := fun h => hrr ((worth_le (by omega) (by omega)).1 h); have h8 : worthF 1 = 1000 := rfl; omega)
                   have hTI : TimI s (E + 1) (worthF 1) (S + V * 1000) D := by
                     have h8 : worthF 1 = 1000 := rfl
                     rw [h8]
                     exact hT4.1
                   have HT4 := Lib.hid (And.intro hTI hT4.2.1)
                   clear hTI
                   obtain ⟨X, hXe⟩ : ∃ X, X = min (T + (if 4398046511 < n then 4398046511 else n) * 1000) farN := ⟨_, rfl⟩
                   have HSF := Lib.hid (sum_far (q := 4398046511) (w := 1000) (V := V) hT Hc.out Hn.out (by omega) (by omega) (by simp [farN]) hXe)
                   have hXb : X ≤ farN := by omega
                   have HSP : Hid (∀ y : Int, y = (X : Int) → Hid (SpL s D (.int .i64 ((E : Int) + 1)) (.int .i64 y) (.int .i64 1))) := Lib.hid fun y hy => spl_mk (k' := E + 1) (S' := S + V * 1000) (T' := X) (r' := 1) HT4.out.1 HT4.out.2 (by omega) hXb HSF.out (by omega) hy
                   clear HSF HT4
                   have HX := Lib.hid hXe
                   clear hXe
                   have hrr1 : ¬ (r : Int) ≤ 1 := by omega
                   have hEz := hT4.2.1
                   have hE0 := hT4.2.2
                   clear hu hrr hT4 T3 T4
                   go_upto_region 27 with (go_at_call 24; refine (HRUN.out _).mono ?_; rintro e w' ⟨⟨n', hn', rfl, hv'⟩, rfl⟩; obtain rfl : n = n' := Hn.out.trans (hv' V rfl).symm; clear hn' hv')
                   obtain ⟨g, hg⟩ : ∃ g : Int, g = 1000 := ⟨_, rfl⟩
                   have cg : (w'.alloc (.cells #[.int .i64 1, .int .i64 1000, .int .i64 60000, .int .i64 3600000, .int .i64 86400000] 3)).cell? ⟨w'.heap.size, 1, none⟩ = some (.int .i64 g) := by rw [hg]; simp
                   have HB2 : Hid (Below w.heap.size w (w'.alloc (.cells #[.int .i64 1, .int .i64 1000, .int .i64 60000, .int .i64 3600000, .int .i64 86400000] 3))) := Lib.hid (HB.out.trans ((below_alloc _).mono HB.out.size))
                   clear HB
                   generalize World.alloc _ _ = w2 at cg HB2 ⊢
                   have hq1 : Int.tdiv 4398046511104 g = 4398046511 := by rw [hg]; decide
                   have hg0 : ¬ g = 0 := by omega
                   have HG : Hid (g = ((1000 : Nat) : Int)) := Lib.hid (by rw [hg]; decide)
                   clear hg
                   go_wp2
                   all_goals
                     go_roundw
                     case rel =>
                       refine ⟨HSP.out _ ?_, HB2⟩
                       rw [HX.out]
                       by_cases h5 : (4398046511 : Int) < (n : Int)
                       · by_cases hc : 4398046511104 < wrap64 ((T : Int) + wrap64 (4398046511 * g))
                         · first | (exfalso; omega) | exact fin1 (q := 4398046511) (W := 1000) HG.out hT (by decide) (by decide) h5 hc
                         · first | (exfalso; omega) | exact fin2 (q := 4398046511) (W := 1000) HG.out hT (by decide) (by decide) h5 hc
                       · by_cases hc : 4398046511104 < wrap64 ((T : Int) + wrap64 ((n : Int) * g))
                         · first | (exfalso; omega) | exact fin3 (q := 4398046511) (W := 1000) (q' := 4398046511) HG.out hT (by decide) (by decide) h5 hc
                         · first | (exfalso; omega) | exact fin4 (q := 4398046511) (W := 1000) (q' := 4398046511) HG.out hT (by decide) (by decide) h5 hc
                     case measure => simp [intOf]; omega
               · have hc9 : (c.toNat : Int) = 109 := by omega
                 obtain ⟨u6, u7⟩ := u4 hc0
                 clear u1 u2 u3 u4 u5 hc0
                 by_cases hE1 : E + 1 < s.size
                 · have hE2 : (E : Int) + 1 < (s.size : Int) := by omega
                   have hu0 := u7 hE1
                   obtain ⟨d, hd⟩ : ∃ d, s[E + 1] = d := ⟨_, rfl⟩
                   rw [hd] at hu0
                   clear u6 u7
                   by_cases hd5 : d.toNat = 115
                   · have hd9 : ((d.toNat : Int) == 115) = true := by simp; omega
                     have hu : unitF (s.data.toList.drop E) = (1, 2) := by rw [hu0, if_pos hd5]
                     clear hu0 hd5
                     by_cases hrr : r ≤ 0
                     · have hDn : Hid (D = none) := Lib.hid (T3.out hEl (.inr (by rw [hu]; exact (worth_le (by omega) (by omega)).2 hrr)))
                       have hrr1 : (r : Int) ≤ 0 := by omega
                       clear hu hrr
                       go_wp2_with (go_at_call 24; refine (HRUN.out _).mono ?_; rintro e w' ⟨⟨n', hn', rfl, hv'⟩, rfl⟩; obtain rfl : n = n' := Hn.out.trans (hv' V rfl).symm; clear hn' hv')
                       go_ret2
                       exact ⟨span_none hDn.out rfl, HB.out⟩
                     · have hT4 := T4.out V 1 2 rfl hEl hu (by omega) (by have := (worth_le (r := 0) (R := r) (by omega) (by omega)); have h9 : ¬ worthF r ≤ worthF 0 := fun h => hrr ((worth_le (by omega) (by omega)).1 h); have h8 : worthF 0 = 1 := rfl; omega)
                       have hTI : TimI s (E + 2) (worthF 0) (S + V * 1) D := by
                         have h8 : worthF 0 = 1 := rfl
                         rw [h8]
                         exact hT4.1
                       have HT4 := Lib.hid (And.intro hTI hT4.2.1)
                       clear hTI
                       obtain ⟨X, hXe⟩ : ∃ X, X = min (T + (if 4398046511104 < n then 4398046511104 else n) * 1) farN := ⟨_, rfl⟩
                       have HSF := Lib.hid (sum_far (q := 4398046511104) (w := 1) (V := V) hT Hc.out Hn.out (by omega) (by omega) (by simp [farN]) hXe)
                       have hXb : X ≤ farN := by omega
                       have HSP : Hid (∀ y : Int, y = (X : Int) → Hid (SpL s D (.int .i64 ((E : Int) + 2)) (.int .i64 y) (.int .i64 0))) := Lib.hid fun y hy => spl_mk (k' := E + 2) (S' := S + V * 1) (T' := X) (r' := 0) HT4.out.1 HT4.out.2 (by omega) hXb HSF.out (by omega) hy
                       clear HSF HT4
                       have HX := Lib.hid hXe
                       clear hXe
                       have hrr1 : ¬ (r : Int) ≤ 0 := by omega
                       have hEz := hT4.2.1
                       have hE0 := hT4.2.2
                       clear hu hrr hT4 T3 T4
                       go_upto_region 27 with (go_at_call 24; refine (HRUN.out _).mono ?_; rintro e w' ⟨⟨n', hn', rfl, hv'⟩, rfl⟩; obtain rfl : n = n' := Hn.out.trans (hv' V rfl).symm; clear hn' hv')
                       obtain ⟨g, hg⟩ : ∃ g : Int, g = 1 := ⟨_, rfl⟩
                       have cg : (w'.alloc (.cells #[.int .i64 1, .int .i64 1000, .int .i64 60000, .int .i64 3600000, .int .i64 86400000] 3)).cell? ⟨w'.heap.size, 0, none⟩ = some (.int .i64 g) := by rw [hg]; simp
                       have HB2 : Hid (Below w.heap.size w (w'.alloc (.cells #[.int .i64 1, .int .i64 1000, .int .i64 60000, .int .i64 3600000, .int .i64 86400000] 3))) := Lib.hid (HB.out.trans ((below_alloc _).mono HB.out.size))
                       clear HB
                       generalize World.alloc _ _ = w2 at cg HB2 ⊢
                       have hq1 : Int.tdiv 4398046511104 g = 4398046511104 := by rw [hg]; decide
                       have hg0 : ¬ g = 0 := by omega
                       have HG : Hid (g = ((1 : Nat) : Int)) := Lib.hid (by rw [hg]; decide)
                       clear hg
                       go_wp2
                       all_goals
                         go_roundw
                         case rel =>
                           refine ⟨HSP.out _ ?_, HB2⟩
                           rw [HX.out]
                           by_cases h5 : (4398046511104 : Int) < (n : Int)
                           · by_cases hc : 4398046511104 < wrap64 ((T : Int) + wrap64 (4398046511104 * g))
                             · first | (exfalso; omega) | exact fin1 (q := 4398046511104) (W := 1) HG.out hT (by decide) (by decide) h5 hc
                             · first | (exfalso; omega) | exact fin2 (q := 4398046511104) (W := 1) HG.out hT (by decide) (by decide) h5 hc
                           · by_cases hc : 4398046511104 < wrap64 ((T : Int) + wrap64 ((n : Int) * g))
                             · first | (exfalso; omega) | exact fin3 (q := 4398046511104) (W := 1) (q' := 4398046511104) HG.out hT (by decide) (by decide) h5 hc
                             · first | (exfalso; omega) | exact fin4 (q := 4398046511104) (W := 1) (q' := 4398046511104) HG.out hT (by decide) (by decide) h5 hc
                         case measure => simp [intOf]; omega
                   · have hd9 : ((d.toNat : Int) == 115) = false := by simp; omega
                     have hu : unitF (s.data.toList.drop E) = (60000, 1) := by rw [hu0, if_neg hd5]
                     clear hu0 hd5
                     by_cases hrr : r ≤ 2
                     · have hDn : Hid (D = none) := Lib.hid (T3.out hEl (.inr (by rw [hu]; exact (worth_le (by omega) (by omega)).2 hrr)))
                       have hrr1 : (r : Int) ≤ 2 := by omega
                       clear hu hrr
                       go_wp2_with (go_at_call 24; refine (HRUN.out _).mono ?_; rintro e w' ⟨⟨n', hn', rfl, hv'⟩, rfl⟩; obtain rfl : n = n' := Hn.out.trans (hv' V rfl).symm; clear hn' hv')
                       go_ret2
                       exact ⟨span_none hDn.out rfl, HB.out⟩
                     · have hT4 := T4.out V 60000 1 rfl hEl hu (by omega) (by have := (worth_le (r := 2) (R := r) (by omega) (by omega)); have h9 : ¬ worthF r ≤ worthF 2 := fun h => hrr ((worth_le (by omega) (by omega)).1 h); have h8 : worthF 2 = 60000 := rfl; omega)
                       have hTI : TimI s (E + 1) (worthF 2) (S + V * 60000) D := by
                         have h8 : worthF 2 = 60000 := rfl
                         rw [h8]
                         exact hT4.1
                       have HT4 := Lib.hid (And.intro hTI hT4.2.1)
                       clear hTI
                       obtain ⟨X, hXe⟩ : ∃ X, X = min (T + (if 73300775 < n then 73300775 else n) * 60000) farN := ⟨_, rfl⟩
                       have HSF := Lib.hid (sum_far (q := 73300775) (w := 60000) (V := V) hT Hc.out Hn.out (by omega) (by omega) (by simp [farN]) hXe)
                       have hXb : X ≤ farN := by omega
                       have HSP : Hid (∀ y : Int, y = (X : Int) → Hid (SpL s D (.int .i64 ((E : Int) + 1)) (.int .i64 y) (.int .i64 2))) := Lib.hid fun y hy => spl_mk (k' := E + 1) (S' := S + V * 60000) (T' := X) (r' := 2) HT4.out.1 HT4.out.2 (by omega) hXb HSF.out (by omega) hy
                       clear HSF HT4
                       have HX := Lib.hid hXe
                       clear hXe
                       have hrr1 : ¬ (r : Int) ≤ 2 := by omega
                       have hEz := hT4.2.1
                       have hE0 := hT4.2.2
                       clear hu hrr hT4 T3 T4
                       go_upto_region 27 with (go_at_call 24; refine (HRUN.out _).mono ?_; rintro e w' ⟨⟨n', hn', rfl, hv'⟩, rfl⟩; obtain rfl : n = n' := Hn.out.trans (hv' V rfl).symm; clear hn' hv')
                       obtain ⟨g, hg⟩ : ∃ g : Int, g = 60000 := ⟨_, rfl⟩
                       have cg : (w'.alloc (.cells #[.int .i64 1, .int .i64 1000, .int .i64 60000, .int .i64 3600000, .int .i64 86400000] 3)).cell? ⟨w'.heap.size, 2, none⟩ = some (.int .i64 g) := by rw [hg]; simp
                       have HB2 : Hid (Below w.heap.size w (w'.alloc (.cells #[.int .i64 1, .int .i64 1000, .int .i64 60000, .int .i64 3600000, .int .i64 86400000] 3))) := Lib.hid (HB.out.trans ((below_alloc _).mono HB.out.size))
                       clear HB
                       generalize World.alloc _ _ = w2 at cg HB2 ⊢
                       have hq1 : Int.tdiv 4398046511104 g = 73300775 := by rw [hg]; decide
                       have hg0 : ¬ g = 0 := by omega
                       have HG : Hid (g = ((60000 : Nat) : Int)) := Lib.hid (by rw [hg]; decide)
                       clear hg
                       go_wp2
                       all_goals
                         go_roundw
                         case rel =>
                           refine ⟨HSP.out _ ?_, HB2⟩
                           rw [HX.out]
                           by_cases h5 : (73300775 : Int) < (n : Int)
                           · by_cases hc : 4398046511104 < wrap64 ((T : Int) + wrap64 (73300775 * g))
                             · first | (exfalso; omega) | exact fin1 (q := 73300775) (W := 60000) HG.out hT (by decide) (by decide) h5 hc
                             · first | (exfalso; omega) | exact fin2 (q := 73300775) (W := 60000) HG.out hT (by decide) (by decide) h5 hc
                           · by_cases hc : 4398046511104 < wrap64 ((T : Int) + wrap64 ((n : Int) * g))
                             · first | (exfalso; omega) | exact fin3 (q := 73300775) (W := 60000) (q' := 73300775) HG.out hT (by decide) (by decide) h5 hc
                             · first | (exfalso; omega) | exact fin4 (q := 73300775) (W := 60000) (q' := 73300775) HG.out hT (by decide) (by decide) h5 hc
                         case measure => simp [intOf]; omega
                 · have hE2 : ¬ (E : Int) + 1 < (s.size : Int) := by omega
                   have hu := u6 hE1
                   clear u6 u7
                   by_cases hrr : r ≤ 2
                   · have hDn : Hid (D = none) := Lib.hid (T3.out hEl (.inr (by rw [hu]; exact (worth_le (by omega) (by omega)).2 hrr)))
                     have hrr1 : (r : Int) ≤ 2 := by omega
                     clear hu hrr
                     go_wp2_with (go_at_call 24; refine (HRUN.out _).mono ?_; rintro e w' ⟨⟨n', hn', rfl, hv'⟩, rfl⟩; obtain rfl : n = n' := Hn.out.trans (hv' V rfl).symm; clear hn' hv')
                     go_ret2
                     exact ⟨span_none hDn.out rfl, HB.out⟩
                   · have hT4 := T4.out V 60000 1 rfl hEl hu (by omega) (by have := (worth_le (r := 2) (R := r) (by omega) (by omega)); have h9 : ¬ worthF r ≤ worthF 2 := fun h => hrr ((worth_le (by omega) (by omega)).1 h); have h8 : worthF 2 = 60000 := rfl; omega)
                     have hTI : TimI s (E + 1) (worthF 2) (S + V * 60000) D := by
                       have h8 : worthF 2 = 60000 := rfl
                       rw [h8]
                       exact hT4.1
                     have HT4 := Lib.hid (And.intro hTI hT4.2.1)
                     clear hTI
                     obtain ⟨X, hXe⟩ : ∃ X, X = min (T + (if 73300775 < n then 73300775 else n) * 60000) farN := ⟨_, rfl⟩
                     have HSF := Lib.hid (sum_far (q := 73300775) (w := 60000) (V := V) hT Hc.out Hn.out (by omega) (by omega) (by simp [farN]) hXe)
                     have hXb : X ≤ farN := by omega
                     have HSP : Hid (∀ y : Int, y = (X : Int) → Hid (SpL s D (.int .i64 ((E : Int) + 1)) (.int .i64 y) (.int .i64 2))) := Lib.hid fun y hy => spl_mk (k' := E + 1) (S' := S + V * 60000) (T' := X) (r' := 2) HT4.out.1 HT4.out.2 (by omega) hXb HSF.out (by omega) hy
                     clear HSF HT4
                     have HX := Lib.hid hXe
                     clear hXe
                     have hrr1 : ¬ (r : Int) ≤ 2 := by omega
                     have hEz := hT4.2.1
                     have hE0 := hT4.2.2
                     clear hu hrr hT4 T3 T4
                     go_upto_region 27 with (go_at_call 24; refine (HRUN.out _).mono ?_; rintro e w' ⟨⟨n', hn', rfl, hv'⟩, rfl⟩; obtain rfl : n = n' := Hn.out.trans (hv' V rfl).symm; clear hn' hv')
                     obtain ⟨g, hg⟩ : ∃ g : Int, g = 60000 := ⟨_, rfl⟩
                     have cg : (w'.alloc (.cells #[.int .i64 1, .int .i64 1000, .int .i64 60000, .int .i64 3600000, .int .i64 86400000] 3)).cell? ⟨w'.heap.size, 2, none⟩ = some (.int .i64 g) := by rw [hg]; simp
                     have HB2 : Hid (Below w.heap.size w (w'.alloc (.cells #[.int .i64 1, .int .i64 1000, .int .i64 60000, .int .i64 3600000, .int .i64 86400000] 3))) := Lib.hid (HB.out.trans ((below_alloc _).mono HB.out.size))
                     clear HB
                     generalize World.alloc _ _ = w2 at cg HB2 ⊢
                     have hq1 : Int.tdiv 4398046511104 g = 73300775 := by rw [hg]; decide
                     have hg0 : ¬ g = 0 := by omega
                     have HG : Hid (g = ((60000 : Nat) : Int)) := Lib.hid (by rw [hg]; decide)
                     clear hg
                     go_wp2
                     all_goals
                       go_roundw
                       case rel =>
                         refine ⟨HSP.out _ ?_, HB2⟩
                         rw [HX.out]
                         by_cases h5 : (73300775 : Int) < (n : Int)
                         · by_cases hc : 4398046511104 < wrap64 ((T : Int) + wrap64 (73300775 * g))
                           · first | (exfalso; omega) | exact fin1 (q := 73300775) (W := 60000) HG.out hT (by decide) (by decide) h5 hc
                           · first | (exfalso; omega) | exact fin2 (q := 73300775) (W := 60000) HG.out hT (by decide) (by decide) h5 hc
                         · by_cases hc : 4398046511104 < wrap64 ((T : Int) + wrap64 ((n : Int) * g))
                           · first | (exfalso; omega) | exact fin3 (q := 73300775) (W := 60000) (q' := 73300775) HG.out hT (by decide) (by decide) h5 hc
                           · first | (exfalso; omega) | exact fin4 (q := 73300775) (W := 60000) (q' := 73300775) HG.out hT (by decide) (by decide) h5 hc
                       case measure => simp [intOf]; omega
               · have hDn : Hid (D = none) := Lib.hid (T3.out hEl (.inl (u5 hc1 hc2 hc3 hc4)))
                 have h1 : ((c.toNat : Int) == 100) = false := by simp; omega
                 have h2 : ((c.toNat : Int) == 104) = false := by simp; omega
                 have h3 : ((c.toNat : Int) == 115) = false := by simp; omega
                 have h4 : ((c.toNat : Int) == 109) = false := by simp; omega
                 clear u1 u2 u3 u4 u5 hc1 hc2 hc3 hc4 T3 T4
                 go_wp2_with (go_at_call 24; refine (HRUN.out _).mono ?_; rintro e w' ⟨⟨n', hn', rfl, hv'⟩, rfl⟩; obtain rfl : n = n' := Hn.out.trans (hv' V rfl).symm; clear hn' hv')
                 go_ret2
                 exact ⟨span_none hDn.out rfl, HB.out⟩
         · have hD : Hid (D = some S) := Lib.hid (tim_end hI (by omega))
           have Hc := Lib.hid hc
           clear hI hc
           go_wp2
           go_ret2
           refine ⟨⟨T, by unfold farN at hT; omega, ?_, fun V hV => ?_⟩, HB.out⟩
           · rw [hD.out]; rfl
           · rw [hD.out] at hV
             injection hV with hV
             rw [← hV]
             exact Hc.out
  · have hN : Hid (timeL s.data.toList = none) := Lib.hid (by unfold timeL; rw [if_neg hp1, if_neg hp2])
    clear hp1 hp2
    rcases (show s.size < 2 ∨ (2 ≤ s.size ∧ s.size < 5) ∨ 5 ≤ s.size by omega) with h | h | h
    · have g1 : ¬ (5 : Int) ≤ (s.size : Int) := by omega
      have g2 : (s.size : Int) < 2 := by omega
      clear hb5 hb2
      go_enter Tryd.func23, Tryd.ntmps23
      go_wp2
      go_ret2
      exact ⟨span_none hN.out rfl, Below.refl _ _⟩
    · have g1 : ¬ (5 : Int) ≤ (s.size : Int) := by omega
      have g2 : ¬ (s.size : Int) < 2 := by omega
      have g3 := hb2 h.1
      clear hb5 hb2
      go_enter Tryd.func23, Tryd.ntmps23
      go_wp2
      go_ret2
      exact ⟨span_none hN.out rfl, Below.refl _ _⟩
    · have g1 : (5 : Int) ≤ (s.size : Int) := by omega
      have g2 : ¬ (s.size : Int) < 2 := by omega
      have g3 := hb2 (by omega)
      have g4 := hb5 h
      clear hb5 hb2
      go_enter Tryd.func23, Tryd.ntmps23
      go_wp2
      go_ret2
      exact ⟨span_none hN.out rfl, Below.refl _ _⟩
end Go.Proofs.YtckjnlonijodcaaDoor.Tx
