/-
  Links: copyOf, linkOf, sameLink; the reference's Linked and bus's Start. Conditions: the words read, within the reach.
-/
import Derived.Test.YtdncdmibmopilaaBus1
import Derived.Test.YtdncdmibmopilaaSt
namespace Go.Proofs.Ytdncdmibmopilaa.Bus
open Go.RowKit Go.Proofs.Ytdncdmibmopilaa.W Go.Proofs.Ytdncdmibmopilaa.Ints

abbrev linkV (st wt : Int) (safe words : Value) (seq age : Int) (fresh : Bool) : Value := .agg #[.int .i64 st, .int .i64 wt, safe, words, .int .i64 seq, .int .i64 age, .bool fresh]
structure LD where
  st : Int
  wt : Int
  safe : List Int
  words : List Int
  seq : Int
  age : Int
  fresh : Bool
def zeroL : LD := ⟨0, 0, [], [], 0, 0, false⟩
def linkedF (st wt : Int) (zs : List Int) : LD × Int :=
  if 0 ≤ st ∧ st ≤ 247 ∧ 1 ≤ wt ∧ wt ≤ 1000 then (if speltE zs = 0 then (⟨st, wt, zs, zs, 0, 0, false⟩, 0) else (zeroL, speltE zs)) else (zeroL, 3)

/-- the two rows of a link that is new -/
def Rows2 (w w' : World) (A B : Option Addr) (c d : Nat) (F : LD) : Prop :=
  ∃ mid, w.heap.size ≤ mid ∧ mid ≤ w'.heap.size ∧ Own.ok ⟨w.heap.size, mid, 3, 1, A, F.safe.length, c, ints F.safe⟩ w' ∧ Own.ok ⟨mid, w'.heap.size, 3, 1, B, F.words.length, d, ints F.words⟩ w' ∧ Below w.heap.size w w'
/-- what comes back: a link with rows of its own -/
def FreshL (w w' : World) (e : Ending) (F : LD × Int) : Prop :=
  ∃ A c B d, e = .returned (.tuple #[linkV F.1.st F.1.wt (.slice A F.1.safe.length c) (.slice B F.1.words.length d) F.1.seq F.1.age F.1.fresh, .int .i64 F.2]) ∧ Rows2 w w' A B c d F.1

theorem rows2_nil {w w' : World} (F : LD) (h1 : F.safe = []) (h2 : F.words = []) (hb : Below w.heap.size w w') : Rows2 w w' none none 0 0 F := by
  have hs := hb.size
  refine ⟨w'.heap.size, hs, Nat.le_refl _, ⟨?_, fun a h => by cases h⟩, ⟨?_, fun a h => by cases h⟩, hb⟩
  · simp only [h1]
    exact World.ownsRow_nil _ _ _ _
  · simp only [h2]
    exact World.ownsRow_nil _ _ _ _

set_option maxHeartbeats 400000 in
theorem copyOf_any (A : Option Addr) (n c : Nat) (zs : List Int) (w : World) (hr : Rd w 1 A n (ints zs)) (hn : n * 8 ≤ 140737488351232) :
    Calls Try.prog 31 #[.slice A n c] w fun e w' => ∃ A' c', e = .returned (.slice A' n c') ∧ w'.ownsRow w.heap.size 3 1 (.slice A' n c') n (ints zs) ∧ Below w.heap.size w w' := by
  obtain ⟨i0, hi0, hz0, hz1, hz2⟩ := info_parts int_info
  have HR := Lib.hid hr
  clear hr
  go_enter Try.func31, Try.ntmps31
  go_wp2_with (at_builtin; refine wpList_append_rd _ rfl (.const (.slice none 0 0)) (.tmp 3) 22 rfl w.heap.size 3 i0 _ 1 8 Try.underlying22 hi0 hz0 hz1 hz2 rfl (by omega) _ 0 [] rfl (World.ownsRow_nil _ _ _ _) A n c (ints zs) rfl HR.out (ones _ _) ?_ ?_ ?_ ?_)
  · unfold maxLen; omega
  · omega
  · simp
  · intro v' w1 ho1 hg1 hat1
    obtain ⟨A', c', rfl, _⟩ := own_shape ho1
    try simp only [Nat.zero_add, List.nil_append] at ho1
    have HO := Lib.hid ho1
    have HG := Lib.hid (grow_none (show World.grownBy _ w1 none from hg1))
    clear ho1 hg1 hat1
    go_wp2
    go_ret
    exact ⟨A', c', by first | rfl | simp, HO.out, HG.out⟩

set_option maxHeartbeats 1600000 in
theorem sameLink_eq (st wt : Int) (A B C D : Option Addr) (n m c1 c2 c3 c4 : Nat) (seq age : Int) (fresh : Bool) (xs ys : List Int) (w : World)
    (hA : Rd w 1 A n (ints xs)) (hB : Rd w 1 B m (ints ys)) (hC : Rd w 1 C n (ints xs)) (hD : Rd w 1 D m (ints ys)) (hn : n ≤ maxLen) (hm : m ≤ maxLen) :
    Calls Try.prog 36 #[linkV st wt (.slice A n c1) (.slice B m c2) seq age fresh, linkV st wt (.slice C n c3) (.slice D m c4) seq age fresh] w fun e w' => e = .returned (.bool true) ∧ Below w.heap.size w w' := by
  have HA := Lib.hid hA
  have HB := Lib.hid hB
  have HC := Lib.hid hC
  have HD := Lib.hid hD
  clear hA hB hC hD
  go_enter Try.func36, Try.ntmps36
  go_wp2_with fail
  refine (sameInts_any A C n n c1 c3 xs xs _ ((HA.out.alloc _).alloc _) ((HC.out.alloc _).alloc _) hn).mono ?_
  rintro e w' ⟨rfl, q, rfl⟩
  rw [show decide (xs = xs) = true from by simp]
  go_wp2_with fail
  refine (sameInts_any B D m m c2 c4 ys ys _ (((HB.out.alloc _).alloc _).drewN _) (((HD.out.alloc _).alloc _).drewN _) hm).mono ?_
  rintro e w' ⟨rfl, q2, rfl⟩
  rw [show decide (ys = ys) = true from by simp]
  go_wp2
  go_ret
  exact ⟨rfl, below_drewN ((below_alloc _).alloc (by simp) _) _⟩

/-- an answer that is nothing but a fault -/
theorem fault_end {w w' : World} (k : Int) (hb : Below w.heap.size w w') : FreshL w w' (.returned (.tuple #[linkV 0 0 (.slice none 0 0) (.slice none 0 0) 0 0 false, .int .i64 k])) (zeroL, k) :=
  ⟨none, 0, none, 0, rfl, rows2_nil _ rfl rfl hb⟩
end Go.Proofs.Ytdncdmibmopilaa.Bus
