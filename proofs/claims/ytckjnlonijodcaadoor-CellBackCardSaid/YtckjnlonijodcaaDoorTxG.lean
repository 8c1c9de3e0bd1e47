/-
  strconv.FormatInt at base 16, of numbers of two bytes. Conditions: one cell of the table of trailing noughts as it is laid.
-/
import Derived.Test.YtckjnlonijodcaaDoorTxF
import Derived.Laws.BitsAllLaws
namespace Go.Proofs.YtckjnlonijodcaaDoor.Tx
open Go.RowKit Go.Proofs.YtckjnlonijodcaaDoor.W Go.Proofs.YtckjnlonijodcaaDoor.Num Go.Proofs.YtckjnlonijodcaaDoor.Cell

set_option maxRecDepth 100000 in
set_option maxHeartbeats 3200000 in
theorem tz_16 (w : World) (h : w.cell? ⟨6, 15, none⟩ = some (.int .u8 4)) : Calls Tryd.prog 70 #[.int .u64 16] w fun e w' => e = .returned (.int .i64 4) ∧ w' = w := by
  have e1 : IntKind.u64.wrap (-16) = 18446744073709551600 := by decide
  have e2 : bits BinOp.and IntKind.u64 16 18446744073709551600 = 16 := by decide
  have e3 : IntKind.u64.wrap (16 * 285870213051353865) = 4573923408821661840 := by decide
  have e4 : IntKind.u64.wrap 4573923408821661840 = 4573923408821661840 := by decide
  go_enter Tryd.func70, Tryd.ntmps70
  go_wp2
  go_ret
  exact ⟨rfl, rfl⟩
theorem pow_16 (w : World) : Calls Tryd.prog 69 #[.int .i64 16] w fun e w' => e = .returned (.bool true) ∧ w' = w := by
  have e1 : bits BinOp.and IntKind.i64 16 15 = 0 := by decide
  go_enter Tryd.func69, Tryd.ntmps69
  go_wp2
  go_ret
  exact ⟨ret_bool (by first | rfl | simp [e1]), rfl⟩
/-- a small hexadecimal digit -/
def lexD (d : Nat) : UInt8 := if d < 10 then UInt8.ofNat (48 + d) else UInt8.ofNat (87 + d)
def lexU (u : Nat) : List UInt8 := if _h : u < 16 then [lexD u] else lexU (u / 16) ++ [lexD (u % 16)]
termination_by u
decreasing_by omega
theorem lex_one {u : Nat} (h : u < 16) : lexU u = [lexD u] := by rw [lexU, dif_pos h]
theorem lex_more {u : Nat} (h : ¬ u < 16) : lexU u = lexU (u / 16) ++ [lexD (u % 16)] := by rw [lexU, dif_neg h]
theorem up_dig : ∀ d : Fin 16, Go.Lib.upperB (lexD d.val) = hexD d.val ∧ (lexD d.val).toNat < 128 := by decide
theorem lex_up : ∀ u : Nat, (lexU u).map Go.Lib.upperB = hexU u ∧ ∀ b ∈ lexU u, b.toNat < 128 := by
  intro u
  induction u using Nat.strongRecOn with
  | _ u ih =>
    by_cases h : u < 16
    · rw [lex_one h, hex_one h]
      have := up_dig ⟨u, h⟩
      exact ⟨by simpa using this.1, fun b hb => by simp at hb; rw [hb]; exact this.2⟩
    · rw [lex_more h, hex_more h, List.map_append]
      obtain ⟨i1, i2⟩ := ih (u / 16) (by omega)
      have := up_dig ⟨u % 16, Nat.mod_lt _ (by omega)⟩
      refine ⟨by rw [i1]; simpa using this.1, fun b hb => ?_⟩
      rcases List.mem_append.1 hb with h' | h'
      · exact i2 b h'
      · simp at h'
        rw [h']
        exact this.2
theorem lex_len (u : Nat) : (lexU u).length = (hexU u).length := by rw [← (lex_up u).1, List.length_map]
def digs36 : ByteArray := { data := #[48, 49, 50, 51, 52, 53, 54, 55, 56, 57, 97, 98, 99, 100, 101, 102, 103, 104, 105, 106, 107, 108, 109, 110, 111, 112, 113, 114, 115, 116, 117, 118, 119, 120, 121, 122] }
theorem dig36 : ∀ d : Fin 16, digs36.data[d.val]? = some (lexD d.val) := by decide
theorem lex_at {d : Nat} (h : d < 16) (h' : d < digs36.size) : digs36[d] = lexD d := by
  have := dig36 ⟨d, h⟩
  rw [Array.getElem?_eq_some_iff] at this
  exact this.2
theorem and_15 (m : Nat) (h : m ≤ 65535) : bits BinOp.and IntKind.u64 (m : Int) 15 = ((m % 16 : Nat) : Int) := by
  have h1 : m &&& 15 = m % 16 := Nat.and_two_pow_sub_one_eq_mod m 4
  rw [← h1]
  exact u64_and_nat m 15 (by omega) (by omega)
/-- the row that digits are laid into, from behind -/
def FB (w0 w : World) (j : Nat) (L : List UInt8) : Prop := ∃ cs : Array Value, Blk w w0.heap.size 94 cs ∧ cs.size = 65 ∧ L.length = j ∧ j ≤ 65 ∧ (∀ t, t < j → cs[65 - j + t]? = some (.int .u8 ((L.getD t 0).toNat : Int))) ∧ Below w0.heap.size w0 w
theorem FB.start (w : World) : FB w (w.alloc (.cells Tryd.zeroCells94 94)) 0 [] := ⟨_, Blk.new w _ _, by kernel_rfl, rfl, by omega, fun t h => by omega, W.below_alloc _⟩
section
variable {w0 w : World} {j : Nat} {L : List UInt8}
theorem FB.cell (h : FB w0 w j L) {i : Nat} (hi : i < 65) : ∃ u, w.cell? ⟨w0.heap.size, i, none⟩ = some u := by
  obtain ⟨cs, h1, h2, _⟩ := h
  rw [h1.cell]
  exact ⟨_, Array.getElem?_eq_getElem (by omega)⟩
theorem FB.free (h : FB w0 w j L) (i : Nat) : w.frozen? ⟨w0.heap.size, i, none⟩ = false := by
  obtain ⟨cs, h1, _⟩ := h
  exact h1.frozen i
theorem FB.shape (h : FB w0 w j L) : w.shape? w0.heap.size = some (94, 65) := by
  obtain ⟨cs, h1, h2, _⟩ := h
  simp [World.shape?, show w.heap[w0.heap.size]? = _ from h1, h2]
theorem FB.put (h : FB w0 w j L) (hj : j < 65) {i : Nat} (hi : i + (j + 1) = 65) (c : UInt8) : FB w0 (w.setCell ⟨w0.heap.size, i, none⟩ (.int .u8 (c.toNat : Int))) (j + 1) (c :: L) := by
  obtain ⟨cs, h1, h2, h3, h4, h5, h6⟩ := h
  refine ⟨_, h1.put i _, by simpa using h2, by simp [h3], by omega, fun t ht => ?_, h6.setCell (Nat.le_refl _) _⟩
  rw [Array.getElem?_setIfInBounds]
  cases t with
  | zero => rw [if_pos (by omega), if_pos (by omega)]; rfl
  | succ t =>
    rw [if_neg (by omega), show 65 - (j + 1) + (t + 1) = 65 - j + t by omega, h5 t (by omega)]
    rfl
theorem FB.str (h : FB w0 w j L) {i c : Nat} (hi : i + j = 65) : (convert 29 9 (.slice (some ⟨w0.heap.size, i, none⟩) j c)).run Tryd.prog w = .ok (.string (strB L)) w := by
  obtain ⟨cs, h1, h2, h3, h4, h5, h6⟩ := h
  rw [run_convert_bytes_arg (P := Tryd.prog) w 29 5 Tryd.underlying29 Tryd.underlying5 w0.heap.size i j c (L.map fun b => (b.toNat : Int)) (by simp [h3]) (fun t ht => by
    rw [h1.cell, show i + t = 65 - j + t by omega, h5 t ht]
    simp [List.getD_eq_getElem?_getD, List.getElem?_eq_getElem (show t < L.length by omega)]) 9 Tryd.underlying9, strOf]
end
theorem slice_65 (g i J : Nat) (h : i + J = 65) (hJ : 1 ≤ J) (W : World) : (Instr.sliceAt 94 (.pointer (some ⟨g, 0, none⟩)) (some (.int .i64 (i : Int))) none none).run Tryd.prog W = .ok (.slice (some ⟨g, i, none⟩) J J) W := by
  have hal : Tryd.prog.arrayLen 94 = 65 := by simp [Program.arrayLen, Tryd.underlying94]
  have hel : Tryd.prog.elem 94 = 5 := by simp [Program.elem, Tryd.underlying94]
  rw [run_sliceAt_array_l W 94 ⟨g, 0, none⟩ (by simp [Program.arrayLen, Program.elem, Tryd.underlying94]) .i64 (i : Int) (by omega) (by rw [hal]; omega), hal, hel]
  go_simp
  have h1 : 65 - i = J := by omega
  have h2 : ¬ 65 = i := by omega
  simp [h1, h2]
set_option maxRecDepth 100000 in
set_option maxHeartbeats 6400000 in
theorem formatBits_16 (n : Nat) (w : World) (hn : n ≤ 65535) (hz : w.cell? ⟨6, 15, none⟩ = some (.int .u8 4)) : Calls Tryd.prog 60 #[.slice none 0 0, .int .u64 (n : Int), .int .i64 16, .bool false, .bool false] w fun e w' => e = .returned (.tuple #[.slice none 0 0, .string (strB (lexU n))]) ∧ Below w.heap.size w w' := by
  have hz' : (w.alloc (.cells Tryd.zeroCells94 94)).cell? ⟨6, 15, none⟩ = some (.int .u8 4) := by
    have := (W.below_alloc (w := w) (.cells Tryd.zeroCells94 94)).cell (p := ⟨6, 15, none⟩) (lt_of_cell hz)
    rw [this]; exact hz
  have F0 := Lib.hid (FB.start w)
  obtain ⟨R, hRR⟩ : ∃ R, lexU n = R := ⟨_, rfl⟩
  have HR : Hid (lexU n ++ [] = R) := Lib.hid (by simpa using hRR)
  rw [hRR]
  clear hRR
  have HL : Hid ((lexU n).length ≤ 4) := Lib.hid (by rw [lex_len]; exact hex_len hn)
  clear hz
  have hI : Hid (∀ u i wr, u = Value.int .u64 (n : Int) → i = Value.int .i64 65 → FB w wr 0 [] → ∃ (m ii j : Nat) (L : List UInt8), j + (lexU m).length ≤ 4 ∧ m ≤ 65535 ∧ ii + j = 65 ∧ u = .int .u64 (m : Int) ∧ i = .int .i64 (ii : Int) ∧ Hid (lexU m ++ L = R) ∧ Hid (FB w wr j L)) := Lib.hid fun u i wr hu hi hf => ⟨n, 65, 0, [], by have := HL.out; omega, hn, rfl, hu, hi, HR, Lib.hid hf⟩
  go_enter Tryd.func60, Tryd.ntmps60
  go_wp2_with first
    | (go_at_call 70; refine (tz_16 _ hz').mono ?_; rintro e w1 ⟨rfl, hw1⟩; subst hw1)
    | (go_at_call 69; refine (pow_16 _).mono ?_; rintro e w1 ⟨rfl, hw1⟩; subst hw1)
  go_loopw [1, 13] (fun u i wr => ∃ (m ii j : Nat) (L : List UInt8), j + (lexU m).length ≤ 4 ∧ m ≤ 65535 ∧ ii + j = 65 ∧ u = .int .u64 (m : Int) ∧ i = .int .i64 (ii : Int) ∧ Hid (lexU m ++ L = R) ∧ Hid (FB w wr j L)) (fun u _ _ => (intOf u).toNat)
  case atStart => exact hI.out _ _ _ rfl rfl F0.out
  case round =>
    obtain ⟨m, ii, j, L, hjl, hm, hij, rfl, rfl, HRR, HF⟩ := hrel
    clear hI F0 HR hz'
    have hlen : 1 ≤ (lexU m).length := by
      by_cases h : m < 16
      · rw [lex_one h]; simp
      · rw [lex_more h]; simp
    obtain ⟨i', rfl⟩ : ∃ i', ii = i' + 1 := ⟨ii - 1, by omega⟩
    have hi65 : i' < 65 := by omega
    have hfr := HF.out.free i'
    have hsh := HF.out.shape
    obtain ⟨old, hold⟩ := HF.out.cell hi65
    by_cases h16 : m < 16
    · have hidx := lex_at (d := m) h16 (by show m < 36; omega)
      have HN : Hid (FB w (wr.setCell ⟨w.heap.size, i', none⟩ (.int .u8 ((lexD m).toNat : Int))) (j + 1) (lexD m :: L)) := Lib.hid (HF.out.put (by omega) (by omega) _)
      have HRN : Hid (lexD m :: L = R) := Lib.hid (by rw [← HRR.out, lex_one h16]; rfl)
      have hq := HN.out.str (i := i') (c := j + 1) (by omega)
      have hsl := slice_65 w.heap.size i' (j + 1) (by omega) (by omega)
      unfold digs36 at hidx
      have HB : Hid (Below w.heap.size w (wr.setCell ⟨w.heap.size, i', none⟩ (.int .u8 ((lexD m).toNat : Int)))) := Lib.hid (by obtain ⟨_, _, _, _, _, _, h⟩ := HN.out; exact h)
      go_wp2
      go_ret2
      exact ⟨by rw [← HRN.out]; rfl, HB.out⟩
    · obtain ⟨d, hd⟩ : ∃ d, m % 16 = d := ⟨_, rfl⟩
      have hd16 : d < 16 := by omega
      have hidx := lex_at (d := d) hd16 (by show d < 36; omega)
      unfold digs36 at hidx
      have hand := and_15 m hm
      rw [hd] at hand
      have HN : Hid (FB w (wr.setCell ⟨w.heap.size, i', none⟩ (.int .u8 ((lexD d).toNat : Int))) (j + 1) (lexD d :: L)) := Lib.hid (HF.out.put (by omega) (by omega) _)
      have hlm := lex_more h16
      rw [hd] at hlm
      have hjl2 : j + 1 + (lexU (m / 16)).length ≤ 4 := by rw [hlm, List.length_append] at hjl; simp at hjl; omega
      have HRN : Hid (lexU (m / 16) ++ lexD d :: L = R) := Lib.hid (by rw [← HRR.out, hlm, List.append_assoc]; rfl)
      clear hlm hjl hlen
      go_wp2
      go_roundw
      case rel => exact ⟨m / 16, i', j + 1, lexD d :: L, hjl2, by omega, by omega, by rw [Int.natCast_ediv]; rfl, rfl, HRN, HN⟩
      case measure => simp [intOf]; omega
theorem innerFmt_16 (n : Nat) (w : World) (hn : n ≤ 65535) (hz : w.cell? ⟨6, 15, none⟩ = some (.int .u8 4)) : Calls Tryd.prog 45 #[.int .i64 (n : Int), .int .i64 16] w fun e w' => e = .returned (.string (strB (lexU n))) ∧ Below w.heap.size w w' := by
  have hc := formatBits_16 n w hn hz
  clear hz
  go_enter Tryd.func45, Tryd.ntmps45
  go_wp2_with (go_at_call 60; refine hc.mono ?_; rintro e w1 ⟨rfl, hb⟩)
  go_ret
  exact ⟨rfl, hb⟩
theorem FormatInt_16 (n : Nat) (w : World) (hn : n ≤ 65535) (hz : w.cell? ⟨6, 15, none⟩ = some (.int .u8 4)) : Calls Tryd.prog 28 #[.int .i64 (n : Int), .int .i64 16] w fun e w' => e = .returned (.string (strB (lexU n))) ∧ Below w.heap.size w w' := by
  have hc := innerFmt_16 n w hn hz
  clear hz
  go_enter Tryd.func28, Tryd.ntmps28
  go_wp2_with (go_at_call 45; refine hc.mono ?_; rintro e w1 ⟨rfl, hb⟩)
  go_ret
  exact ⟨rfl, hb⟩
end Go.Proofs.YtckjnlonijodcaaDoor.Tx
