/-
  Bytes: a slice of bytes as a string; sameBytes, spoil. Conditions: the bytes read; for spoil: they lie in a row of the caller's own.
-/
import Derived.Test.YtdncdmibmopilaaInts
import Derived.Laws.BytesArg
import Derived.Deep.QuietTactic
import Derived.BigQuiet
import Derived.Laws.BitsAllLaws
import Derived.Outline
namespace Go.Proofs.Ytdncdmibmopilaa.Byt
open Go.RowKit Go.Proofs.Ytdncdmibmopilaa.W Go.Proofs.Ytdncdmibmopilaa.Ints

theorem u8_info : (Try.prog.info? 5).map (fun i => (i.zero, i.size, i.bytes)) = some (some (.int .u8 0), 1, 1) := by kernel_rfl
abbrev byts (bs : List UInt8) : List Value := bs.map fun b => .int .u8 (b.toNat : Int)
/-- a block that is known whole, as a slice -/
theorem rd_blk {w : World} {g : Nat} {t : TypeId} {cs : Array Value} (h : Blk w g t cs) {us : List Value} {n : Nat} (hu : cs.toList = us) (hn : us.length = n) : Rd w 1 (some ⟨g, 0, none⟩) n us := by
  refine ⟨by omega, fun _ => ⟨g, 0, rfl, fun j u hj => ?_⟩⟩
  rw [Nat.zero_add, h.cell, ← hj, ← hu]
  simp
theorem brd_len {w : World} {A : Option Addr} {n : Nat} {bs : List UInt8} (h : Rd w 1 A n (byts bs)) : bs.length = n := by simpa using h.1
theorem brd_at {w : World} {A : Option Addr} {n : Nat} {bs : List UInt8} (h : Rd w 1 A n (byts bs)) (hn : 0 < n) :
    ∃ b o, A = some ⟨b, o, none⟩ ∧ ∀ j, j < n → w.cell? ⟨b, o + j, none⟩ = some (.int .u8 ((bs.getD j 0).toNat : Int)) := by
  obtain ⟨b, o, e, hc⟩ := h.2 hn
  refine ⟨b, o, e, fun j hj => hc j _ ?_⟩
  have hl := brd_len h
  simp [List.getElem?_map, List.getD_eq_getElem?_getD, List.getElem?_eq_getElem (show j < bs.length by omega)]

abbrev strB (bs : List UInt8) : ByteArray := ⟨bs.toArray⟩
theorem strOf (bs : List UInt8) : strOfNums (bs.map fun b => (b.toNat : Int)) = strB bs := by
  unfold strOfNums strB
  congr 2
  rw [List.map_map]
  conv => rhs; rw [← List.map_id bs]
  apply List.map_congr_left
  intro x _
  simp

theorem conv_bytes {P : Program} {w : World} {A : Option Addr} {n : Nat} {bs : List UInt8} (h : Rd w 1 A n (byts bs)) (c : Nat) (src e dst : TypeId) (hs : P.underlying src = some (.slice e)) (he : P.underlying e = some (.int .u8)) (hd : P.underlying dst = some .string) :
    (convert src dst (.slice A n c)).run P w = .ok (.string (strB bs)) w := by
  have hl := brd_len h
  rcases Nat.eq_zero_or_pos n with h0 | h0
  · subst h0
    have hb : bs = [] := List.eq_nil_of_length_eq_zero hl
    subst hb
    rw [run_convert_bytes_string w src dst e _ 0 c hs he hd]
    cases A <;> simp [Conv.bytesToString, loadCells]
    all_goals rfl
  · obtain ⟨b, o, rfl, hc⟩ := brd_at h h0
    rw [run_convert_bytes_arg (P := P) w src e hs he b o n c (bs.map fun b => (b.toNat : Int)) (by simp [hl]) (fun i hi => by
      rw [hc i hi]
      simp [List.getD_eq_getElem?_getD, List.getElem?_eq_getElem (show i < bs.length by omega)]) dst hd, strOf]

theorem sameBytes_eq (A B : Option Addr) (n c d : Nat) (bs : List UInt8) (w : World) (hA : Rd w 1 A n (byts bs)) (hB : Rd w 1 B n (byts bs)) :
    Calls Try.prog 17 #[.slice A n c, .slice B n d] w fun e w' => e = .returned (.bool true) ∧ w = w' := by
  have q1 := conv_bytes (P := Try.prog) hA c 31 5 9 Try.underlying31 Try.underlying5 Try.underlying9
  have q2 := conv_bytes (P := Try.prog) hB d 31 5 9 Try.underlying31 Try.underlying5 Try.underlying9
  clear hA hB
  go_enter Try.func17, Try.ntmps17
  go_wp2
  go_ret
  exact ⟨by simp, rfl⟩

/-- spoil writes over its slice's bytes and behind them: nothing else turns but its own row. -/
theorem spoil_any (base : Nat) (A : Option Addr) (n c : Nat) (bs : List UInt8) (w : World) (ho : w.ownsRow base 5 1 (.slice A n c) n (byts bs)) (hb : base ≤ w.heap.size) (hn : n ≤ 140737488351232) :
    Calls Try.prog 18 #[.slice A n c] w fun e w' => e = .returned (.tuple #[]) ∧ w.grownBy w' (Value.slice A n c).ownBlock := by
  obtain ⟨i0, hi0, hz0, hz1, hz2⟩ := info_parts u8_info
  have HO : Hid (w.ownsRow base 5 1 (.slice A n c) n ((bs.map fun b => (b.toNat : Int)).map (Value.int .u8))) := by rw [List.map_map]; exact ho
  clear ho
  go_enter Try.func18, Try.ntmps18
  go_wp2
  go_loopw [2] (fun i wr => ∃ k : Nat, k ≤ n ∧ i = .int .i64 k ∧ (∃ ys : List Int, wr.ownsRow base 5 1 (.slice A n c) n (ys.map (Value.int .u8))) ∧ Hid (w.grownBy wr (Value.slice A n c).ownBlock)) (fun i _ => n - (intOf i).toNat)
  case atStart => exact ⟨0, Nat.zero_le _, rfl, ⟨_, HO.out⟩, Grow.refl _ _⟩
  case round =>
    obtain ⟨k, hk, rfl, ⟨ys, hy⟩, hg⟩ := hrel
    by_cases hlt : k < n
    · obtain ⟨g, rfl, hbg, hgl⟩ := own_head hy (by omega)
      have hyl : ys.length = n := by have := hy.1; simpa using this
      have hu : wr.cell? ⟨g, k, none⟩ = some (.int .u8 (ys.getD k 0)) := by
        rw [hy.cellAt k (by omega)]
        simp [List.getD_eq_getElem?_getD, List.getElem?_eq_getElem (show k < ys.length by omega)]
      generalize ys.getD k 0 = y at hu
      have hfz := hy.frozenAt k
      obtain ⟨h1, h2⟩ := hy.stored k (.int .u8 (bits .xor .u8 y 90))
      have hset : (ys.map (Value.int .u8)).set k (.int .u8 (bits .xor .u8 y 90)) = (ys.set k (bits .xor .u8 y 90)).map (Value.int .u8) := by rw [List.map_set]
      rw [hset] at h1
      have HY := Lib.hid hy
      have H1 := Lib.hid h1
      have H2 := Lib.hid h2
      clear hy h1 h2 hset hyl
      go_wp2
      go_roundw
      case rel => exact ⟨k + 1, by omega, by go_num, ⟨_, H1.out⟩, Grow.trans hg.out H2.out (fun _ _ => .inl rfl)⟩
      case measure => simp [intOf]; omega
    · have hk' : n ≤ k := by omega
      have hsz := hg.out.size
      have HY := Lib.hid hy
      clear hy
      go_wp2_with (at_builtin; refine wpList_append_rd _ rfl (.tmp 17) (.tmp 18) 31 rfl base 5 i0 _ 1 1 Try.underlying31 hi0 hz0 hz1 hz2 rfl (by omega) _ n _ rfl (HY.out.alloc _) _ 2 2 [.int .u8 90, .int .u8 90] rfl (rd_blk (Blk.new _ _ _) rfl rfl) ?_ ?_ ?_ ?_ ?_)
      · simp [Value.oneCell']
      · unfold maxLen; omega
      · omega
      · simp; omega
      · intro v' w1 ho1 hg1 hat1
        obtain ⟨A', c', rfl, _⟩ := own_shape ho1
        obtain ⟨g, rfl, hbg, hgl⟩ := own_head ho1 (by omega)
        have hu : ∃ u, w1.cell? ⟨g, 0, none⟩ = some u := by
          rw [ho1.cellAt 0 (by omega)]
          have := ho1.1
          exact ⟨_, List.getElem?_eq_getElem (by omega)⟩
        obtain ⟨u, hu⟩ := hu
        have hfz := ho1.frozenAt 0
        have hgg : Hid (w.grownBy (w1.setCell ⟨g, 0, none⟩ (.int .u8 90)) (Value.slice A n c).ownBlock) := by
          have h2 := (ho1.stored 0 (.int .u8 90)).2
          refine Grow.trans (Grow.trans (Grow.trans hg.out (World.grownBy_alloc _ _ none) (fun x hx => by cases hx)) hg1 (fun x hx => .inl rfl)) h2 (fun x hx => ?_)
          rcases hat1 with h | h
          · exact .inl h
          · right
            have h3 : (some g : Option Nat) = some x := hx
            rw [show (Value.slice (some ⟨g, 0, none⟩) (n + 2) c').ownBlock = some g from rfl] at h
            injection h with h
            injection h3 with h3
            have h4 : wr.heap.size ≤ g := by rw [h]; simp
            omega
        clear ho1 hg1 hat1
        go_wp2
        go_end0
        exact ⟨rfl, hgg.out⟩
end Go.Proofs.Ytdncdmibmopilaa.Byt
