/-
  Words as bytes: bus's put. Conditions: the bytes lie in a row of the call's own.
-/
import Derived.Test.YtdncdmibmopilaaCrc2
import Derived.Test.YtdncdmibmopilaaBus1
namespace Go.Proofs.Ytdncdmibmopilaa.Bus
open Go.RowKit Go.Proofs.Ytdncdmibmopilaa.W Go.Proofs.Ytdncdmibmopilaa.Ints Go.Proofs.Ytdncdmibmopilaa.Num Go.Proofs.Ytdncdmibmopilaa.Byt

abbrev lo8 (x : Nat) : UInt8 := UInt8.ofNat x
abbrev hi8 (x : Nat) : UInt8 := UInt8.ofNat (x / 256)
def two (x : Nat) : List UInt8 := [lo8 x, hi8 x]

theorem two_byts {bs : List UInt8} {x : Nat} (h : x < 65536) : byts bs ++ [.int .u8 ((x : Int) % 256), .int .u8 ((x : Int) / 256)] = byts (bs ++ two x) := by
  simp [byts, two, lo8, hi8]
  omega

set_option maxHeartbeats 1600000 in
theorem put_any (base : Nat) (A : Option Addr) (n c : Nat) (bs : List UInt8) (q x : Nat) (w : World) (ho : w.ownsRow base 5 1 (.slice A n c) n (byts bs)) (hb : base ≤ w.heap.size) (hn : n ≤ 1000) (hx : x < 65536)
    (hq : w.cell? ⟨q, 0, none⟩ = some (.int .u16 (x : Int))) :
    Calls Try.prog 41 #[.slice A n c, .slice (some ⟨q, 0, none⟩) 1 1] w fun e w' => ∃ A' c', e = .returned (.slice A' (n + 2) c') ∧ w'.ownsRow base 5 1 (.slice A' (n + 2) c') (n + 2) (byts (bs ++ two x)) ∧
      w.grownBy w' (Value.slice A n c).ownBlock ∧ ((Value.slice A' (n + 2) c').ownBlock = (Value.slice A n c).ownBlock ∨ ∃ g, (Value.slice A' (n + 2) c').ownBlock = some g ∧ w.heap.size ≤ g) := by
  obtain ⟨i0, hi0, hz0, hz1, hz2⟩ := info_parts u8_info
  have HO := Lib.hid ho
  clear ho
  go_enter Try.func41, Try.ntmps41
  go_wp2
  go_loopw [0, 9] (fun u i wr => (i = .int .i64 0 ∧ u = .slice A n c ∧ w = wr) ∨ (i = .int .i64 1 ∧ ∃ A' c', u = .slice A' (n + 2) c' ∧ Hid (wr.ownsRow base 5 1 (.slice A' (n + 2) c') (n + 2) (byts (bs ++ two x)) ∧ w.grownBy wr (Value.slice A n c).ownBlock ∧
    ((Value.slice A' (n + 2) c').ownBlock = (Value.slice A n c).ownBlock ∨ ∃ g, (Value.slice A' (n + 2) c').ownBlock = some g ∧ w.heap.size ≤ g)))) (fun _ i _ => 1 - (intOf i).toNat)
  case atStart => exact .inl ⟨rfl, rfl, rfl⟩
  case round =>
    rcases hrel with ⟨rfl, rfl, rfl⟩ | ⟨rfl, A', c', rfl, h⟩
    · go_wp2_with (at_builtin; refine wpList_append_rd _ rfl (.tmp 13) (.tmp 19) 31 rfl base 5 i0 _ 1 1 Try.underlying31 hi0 hz0 hz1 hz2 rfl (by omega) _ n (byts bs) rfl (HO.out.alloc _) _ 2 2 [.int .u8 ((x : Int) % 256), .int .u8 ((x : Int) / 256)] rfl (rd_blk (Blk.new _ _ _) rfl rfl) ?_ ?_ ?_ ?_ ?_)
      · simp [Value.oneCell']
      · unfold maxLen; omega
      · omega
      · simp; omega
      · intro v' w1 ho1 hg1 hat1
        obtain ⟨A', c', rfl, _⟩ := own_shape ho1
        have H : Hid (w1.ownsRow base 5 1 (.slice A' (n + 2) c') (n + 2) (byts (bs ++ two x)) ∧ w.grownBy w1 (Value.slice A n c).ownBlock ∧ ((Value.slice A' (n + 2) c').ownBlock = (Value.slice A n c).ownBlock ∨ ∃ g, (Value.slice A' (n + 2) c').ownBlock = some g ∧ w.heap.size ≤ g)) := by
          refine ⟨?_, Grow.trans (World.grownBy_alloc _ _ (Value.slice A n c).ownBlock) hg1 (fun g hg => .inl rfl), ?_⟩
          · rw [two_byts hx] at ho1
            exact ho1
          · rcases hat1 with h | h
            · exact .inl h
            · exact .inr ⟨_, h, by simp⟩
        clear ho1 hg1 hat1
        go_wp2
        go_roundw
        case rel => exact .inr ⟨by go_num, A', c', rfl, H⟩
        case measure => simp [intOf]
    · go_wp2
      go_ret
      exact ⟨A', c', rfl, h.out⟩
end Go.Proofs.Ytdncdmibmopilaa.Bus
