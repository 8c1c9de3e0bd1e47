/-
  Trips that are the same; guards that are the same. Conditions: both read alike.
-/
import Derived.Test.YtdofkakbfolpkaaSf7
namespace Go.Proofs.Ytdofkakbfolpkaa.Sf
open Go.RowKit Go.Proofs.Ytdofkakbfolpkaa.W Go.Proofs.Ytdofkakbfolpkaa.Ints Go.Proofs.Ytdofkakbfolpkaa.Pop

theorem sameTrip_eq (down : Bool) (first : Int) (A B : Option Addr) (n c e : Nat) (key : Bool) (hs : List Int) (w : World) (hA : Rd w 1 A n (ints hs)) (hB : Rd w 1 B n (ints hs)) (hn : n ≤ maxLen) :
    Calls Try.prog 12 #[tripV down first A n c key, tripV down first B n e key] w fun x w' => x = .returned (.bool true) ∧ Below w.heap.size w w' := by
  have HA := Lib.hid hA
  have HB := Lib.hid hB
  clear hA hB
  go_enter Try.func12, Try.ntmps12
  go_wp2_with fail
  refine (sameInts_any A B n n c e hs hs _ ((HA.out.alloc _).alloc _) ((HB.out.alloc _).alloc _) hn).mono ?_
  rintro x w1 ⟨rfl, q, rfl⟩
  rw [show decide (hs = hs) = true from by simp]
  go_wp2
  go_ret
  exact ⟨rfl, below_drewN (below2 _ _ _) _⟩

set_option maxHeartbeats 1600000 in
theorem sameGuard_eq (m d : Int) (Q B : Option Addr) (n c c' : Nat) (vs us : List VD) (w : World) (hr : GRd w Q n vs) (hu : GRd w B n us) (he : us.map VD.pl = vs.map VD.pl) (hn : n ≤ maxLen) :
    Calls Try.prog 13 #[guardV m d Q n c, guardV m d B n c'] w fun x w' => x = .returned (.bool true) ∧ Below w.heap.size w w' := by
  unfold maxLen at hn
  have HR := Lib.hid hr
  have HU := Lib.hid hu
  have HE := Lib.hid he
  clear hr hu he
  go_enter Try.func13, Try.ntmps13
  go_wp2
  generalize hW : World.alloc (w.alloc _) _ = W
  have k0 : Blk W w.heap.size 24 #[.int .i64 m, .int .i64 d, .slice Q n c] := by rw [← hW]; exact (Blk.new w _ _).alloc _
  have k1 : Blk W (w.heap.size + 1) 24 #[.int .i64 m, .int .i64 d, .slice B n c'] := by
    rw [← hW]
    have h := Blk.new (w.alloc (.cells #[.int .i64 m, .int .i64 d, .slice Q n c] 24)) 24 #[.int .i64 m, .int .i64 d, .slice B n c']
    simpa only [World.size_alloc] using h
  have B0 : Hid (Below w.heap.size w W) := by rw [← hW]; exact below2 _ _ _
  have zW : W.heap.size = w.heap.size + 2 := by rw [← hW]; simp
  have c0 := k0.cell
  have c1 := k1.cell
  clear hW k0 k1
  go_loopw [5] (fun i wr => ∃ k : Nat, k ≤ n ∧ i = .int .i64 k ∧ ∃ q, wr = W.drewN q) (fun i _ => n - (intOf i).toNat)
  case atStart => exact ⟨0, Nat.zero_le _, rfl, 0, rfl⟩
  case round =>
    obtain ⟨k, hk, rfl, q, rfl⟩ := hrel
    by_cases hlt : k < n
    · obtain ⟨b, o, v, rfl, ht, hbl, d0, e0, hrv, hvn, hvc⟩ := vote_at (HR.out.below B0.out) hlt
      obtain ⟨b', o', v', rfl, ht', hbl', d0', e0', hrv', hvn', hvc'⟩ := vote_at (HU.out.below B0.out) hlt
      have hpl : v'.pl = v.pl := by
        have h1 := pl_at ht
        have h2 := pl_at ht'
        rw [HE.out, h1] at h2
        injection h2 with h2
        exact h2.symm
      obtain ⟨need, A, vn, vc, of⟩ := v
      obtain ⟨need', A', vn', vc', of'⟩ := v'
      simp only [VD.pl, Prod.mk.injEq] at hpl
      obtain ⟨rfl, rfl⟩ := hpl
      obtain rfl : vn = vn' := (rd_len hrv).symm.trans (rd_len hrv')
      simp only at d0 e0 d0' e0' hvn hvn'
      have HS : Hid (∀ n, Calls Try.prog 17 #[.slice A vn vc, .slice A' vn vc'] ((W.drewN q).drewN n) fun x w' => x = .returned (.bool true) ∧ ∃ k, w' = ((W.drewN q).drewN n).drewN k) := by
        intro n
        refine (sameInts_any A A' vn vn vc vc' of' of' _ ((hrv.drewN q).drewN n) ((hrv'.drewN q).drewN n) (by unfold maxLen; omega)).mono ?_
        rintro x w1 ⟨rfl, h⟩
        exact ⟨by simp, h⟩
      have hnext : Hid (∀ n, (W.drewN q).drewN n = W.drewN (q + n)) := fun n => World.drewN_drewN _ _ _
      have c0 : ∀ i, (W.drewN q).cell? ⟨w.heap.size, i, none⟩ = _ := c0
      have c1 : ∀ i, (W.drewN q).cell? ⟨w.heap.size + 1, i, none⟩ = _ := c1
      have d0 : (W.drewN q).cell? ⟨b, o + k * 2, none⟩ = some (.int .i64 need') := d0
      have d0' : (W.drewN q).cell? ⟨b', o' + k * 2, none⟩ = some (.int .i64 need') := d0'
      have e0 : (W.drewN q).cell? ⟨b, o + k * 2 + 1, none⟩ = some (.slice A vn vc) := e0
      have e0' : (W.drewN q).cell? ⟨b', o' + k * 2 + 1, none⟩ = some (.slice A' vn vc') := e0'
      generalize W.drewN q = wq at *
      have hk0 : (0 : Int) ≤ (k : Int) := by omega
      have hkn : (k : Int) < (n : Int) := by omega
      clear ht ht' hrv hrv' HR HU HE
      have hne : ((need' != need') = false) := by simp
      go_wp2_with fail
      go_quiet (((go_at_call 17; exact Calls.quiet_of (HS.out _))))
      go_wp2
      go_roundw
      case rel => exact ⟨k + 1, by omega, by go_num, _, hnext.out _⟩
      case measure => simp [intOf]; omega
    · go_wp2
      go_ret
      exact ⟨rfl, below_drewN B0.out _⟩
end Go.Proofs.Ytdofkakbfolpkaa.Sf
