/-
  The program's strange: the paths of the slots that a map does not hold. Conditions: the list reads; the map lies.
-/
import Derived.Test.YtnalabohhocjaaaChg8
import Derived.Test.YtnalabohhocjaaaApl
import Derived.Test.YtnalabohhocjaaaChg3
namespace Go.Proofs.Ytnalabohhocjaaa.Chg
open Go.RowKit Go.Shelf Go.Maps Go.Proofs.Ytnalabohhocjaaa.W Go.Proofs.Ytnalabohhocjaaa.Ints Go.Proofs.Ytnalabohhocjaaa.Cod

attribute [local go_sem] Oper.semAt_some

set_option maxRecDepth 100000 in
set_option maxHeartbeats 12800000 in
theorem strange_any (A : Option Addr) (n c : Nat) (sl ml : List SL) (gm nm : Nat) (w : World) (hr : Rd w 6 A n (slotsV sl)) (hok : ∀ s ∈ sl, s.ok) (hml : ∀ s ∈ ml, s.ok) (hn : n ≤ 20000) (hm : OwnM w gm nm (mapF ml 0)) :
    Calls Try.prog 19 #[.slice A n c, .map (some gm)] w fun e w' => ∃ A' n' c', e = .returned (.slice A' n' c') ∧ Mem w w' [] [⟨9, 1, A', n', c', strs (strangeF sl ml)⟩] := by
  obtain ⟨s0, hs0, hsz0, hsz1, hsz2⟩ := info_parts str_info
  have HL : Hid (sl.length = n) := Lib.hid (Rd.rec_len SL.size (by omega) hr)
  have HR := Lib.hid hr
  have HOK := Lib.hid hok
  have HML := Lib.hid hml
  have HM := Lib.hid hm
  have M0 : Hid (∃ (A' : Option Addr) (n' c' : Nat), n' = (strangeF (sl.take 0) ml).length ∧ Mem w w [] [⟨9, 1, A', n', c', strs (strangeF (sl.take 0) ml)⟩]) := Lib.hid ⟨none, 0, 0, rfl, by simpa [strangeF, strs] using (Mem.start w).nilO 9 1⟩
  clear hr hok hml hm
  go_enter Try.func19, Try.ntmps19
  go_wp2
  go_loopw [4, 6, 7, 8, 11] (fun out _ _ _ i wr => ∃ (k : Nat) (A' : Option Addr) (n' c' : Nat), k ≤ n ∧ i = .int .i64 k ∧ out = .slice A' n' c' ∧ Hid (n' = (strangeF (sl.take k) ml).length) ∧ Hid (Mem w wr [] [⟨9, 1, A', n', c', strs (strangeF (sl.take k) ml)⟩])) (fun _ _ _ _ i _ => n - (intOf i).toNat)
  case atStart => exact ⟨0, none, 0, 0, Nat.zero_le _, rfl, rfl, by simp [Hid, strangeF], Lib.hid (by simpa [strangeF, strs] using (Mem.start w).nilO 9 1)⟩
  case round =>
    clear M0
    obtain ⟨k, A', n', c', hk, rfl, rfl, HN, M1⟩ := hrel
    by_cases hlt : k < n
    · obtain ⟨b, o, s, rfl, hs, hbl, c0, c1, c2, c3, c4, c5⟩ := slot_at (HR.out.below M1.out.bel) hlt
      have hk0 : (0 : Int) ≤ (k : Int) := by omega
      have hkn : (k : Int) < (n : Int) := by omega
      have hsk := HOK.out s (List.mem_of_getElem? hs)
      have hbnd : reachBytes ≤ maxLen := by decide
      have hkey := key_of s (Nat.le_trans hsk.1 hbnd) hsk.2.1 hsk.2.2.2.1
      have hhas := map_has hsk ml 0 HML.out
      have hsn := strange_snoc sl ml k s hs
      have hnb : n' ≤ 20000 := by
        have h1 := strange_len (sl.take k) ml
        rw [← HN.out, List.length_take] at h1
        omega
      have HSN := Lib.hid hsn
      have HKEY := Lib.hid hkey
      have HHAS := Lib.hid hhas
      clear hs hsk hkey hhas hsn
      go_upto_region 4 with fail
      have M2 := Lib.hid (M1.out.alloc 50 (slC s))
      clear M1 hbl c0 c1 c2 c3 c4 c5
      generalize World.alloc _ _ = w2 at M2 ⊢
      generalize wr.heap.size = gs at M2 ⊢
      have y0 : w2.cell? ⟨gs, 0, none⟩ = some (.string s.path) := M2.out.cellK 0 rfl 0
      have y1 : w2.cell? ⟨gs, 1, none⟩ = some (.int .i64 s.kind) := M2.out.cellK 0 rfl 1
      have y2 : w2.cell? ⟨gs, 2, none⟩ = some (.int .i64 s.at_) := M2.out.cellK 0 rfl 2
      have y3 : w2.cell? ⟨gs, 3, none⟩ = some (.int .i64 s.len) := M2.out.cellK 0 rfl 3
      have y4 : w2.cell? ⟨gs, 4, none⟩ = some (.bool s.keep) := M2.out.cellK 0 rfl 4
      have y5 : w2.cell? ⟨gs, 5, none⟩ = some (.int .i64 s.role) := M2.out.cellK 0 rfl 5
      go_wp2_with fail
      refine (keyOf_any s _).mono ?_
      rintro e w3 ⟨rfl, hb3⟩
      have M3 := Lib.hid (M2.out.below hb3)
      have hown3 : OwnM w3 gm nm (mapF ml 0) := own_below HM.out M3.out.bel
      clear hb3 M2 y0 y1 y2 y3 y4 y5
      obtain ⟨H, hH⟩ : ∃ H, (knownF ml s).isSome = H := ⟨_, rfl⟩
      have HH := Lib.hid (HHAS.out.trans hH)
      have HX := Lib.hid hH
      clear hH HHAS
      go_upto_region 5 with (at_lookup; refine wpList_lookup_own_ok_int _ rfl _ _ 55 rfl 60 3 .i64 lawK Try.underlying55 Try.underlying3 (zeroI _) gm nm _ rfl hown3 _ _ rfl HKEY.out ?_; intro cc hat hwc; rw [HH.out])
      clear hat hwc hown3 HH
      cases H with
      | true =>
        have e : strangeF (sl.take (k + 1)) ml = strangeF (sl.take k) ml := by
          rw [HSN.out]
          cases hk : knownF ml s with
          | none => have := HX.out; rw [hk] at this; cases this
          | some j => simp
        rw [← e] at M3 HN
        have M4 := Lib.hid (M3.out.delK 0)
        clear e M3
        go_wp2
        go_roundw
        case rel => exact ⟨k + 1, _, _, _, by omega, by go_num, rfl, HN, M4⟩
        case measure => simp [intOf]; omega
      | false =>
        have hb : (knownF ml s).isNone = true := by
          cases hk : knownF ml s with
          | none => rfl
          | some j => have := HX.out; rw [hk] at this; cases this
        have hsn := HSN.out
        rw [if_pos hb] at hsn
        have HSN := Lib.hid hsn
        have y0 : w3.cell? ⟨gs, 0, none⟩ = some (.string s.path) := M3.out.cellK 0 rfl 0
        clear hb hsn
        go_wp2_with (at_builtin; refine wpList_append_rd _ rfl (.tmp 24) (.tmp 27) 28 rfl w.heap.size 9 s0 _ 1 16 Try.underlying28 hs0 hsz0 hsz1 hsz2 rfl (by omega) (.slice A' n' c') n' (strs (strangeF (sl.take k) ml)) rfl ((M3.out.rowO 0 rfl).alloc _) _ 1 1 [.string s.path] rfl (rd_newR _ _ _) ?_ ?_ ?_ ?_ ?_)
        · simp [Value.oneCell']
        · unfold maxLen; omega
        · omega
        · have := M3.out.base
          try simp only [World.size_alloc]
          omega
        · intro v9 w9 ho9 hg9 hat9
          obtain ⟨SA2, sc3, rfl, _⟩ := own_shape ho9
          have hto : strs (strangeF (sl.take k) ml) ++ [.string s.path] = strs (strangeF (sl.take (k + 1)) ml) := by rw [HSN.out]; simp [strs]
          rw [hto] at ho9
          have hm9 := M3.out.appd hg9 ho9 hat9
          have M9 := Lib.hid (hm9.delK 0)
          have HN9 : Hid (n' + 1 = (strangeF (sl.take (k + 1)) ml).length) := by rw [Hid, HSN.out, List.length_append, ← HN.out]; rfl
          clear hm9 M3 ho9 hg9 hat9 hto y0
          go_wp2
          go_roundw
          case rel => exact ⟨k + 1, _, _, _, by omega, by go_num, rfl, HN9, M9⟩
          case measure => simp [intOf]; omega
    · have e : sl.take k = sl := List.take_of_length_le (by rw [HL.out]; omega)
      rw [e] at M1
      go_wp2
      go_ret
      exact ⟨_, _, _, rfl, M1.out⟩
end Go.Proofs.Ytnalabohhocjaaa.Chg
