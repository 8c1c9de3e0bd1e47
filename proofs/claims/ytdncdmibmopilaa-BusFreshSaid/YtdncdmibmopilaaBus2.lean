/-
  Links: copyOf, linkOf, sameLink; the reference's Linked and bus's Start. Conditions: the words read, within the reach.
-/
import Derived.Test.YtdncdmibmopilaaBus1
import Derived.Test.YtdncdmibmopilaaSt
namespace Go.Proofs.Ytdncdmibmopilaa.Bus
open Go.RowKit Go.Proofs.Ytdncdmibmopilaa.W Go.Proofs.Ytdncdmibmopilaa.Ints

abbrev linkV (st wt : Int) (safe words : Value) (seq age : Int) (fresh : Bool) : Value := .agg #[.int .i64 st, .int .i64 wt, safe, words, .int .i64 seq, .int .i64 age, .bool fresh]
structure LD where
  st : Int
  wt : Int
  safe : List Int
  words : List Int
  seq : Int
  age : Int
  fresh : Bool
def zeroL : LD := ⟨0, 0, [], [], 0, 0, false⟩
def linkedF (st wt : Int) (zs : List Int) : LD × Int :=
  if 0 ≤ st ∧ st ≤ 247 ∧ 1 ≤ wt ∧ wt ≤ 1000 then (if speltE zs = 0 then (⟨st, wt, zs, zs, 0, 0, false⟩, 0) else (zeroL, speltE zs)) else (zeroL, 3)

/-- the two rows of a link that is new, from block b on -/
def RowsAt (base : Nat) (w w' : World) (A B : Option Addr) (c d : Nat) (F : LD) : Prop :=
  ∃ l1 h1 l2 h2, (base ≤ l1 ∧ base ≤ l2 ∧ l1 ≤ h1 ∧ l2 ≤ h2 ∧ h1 ≤ w'.heap.size ∧ h2 ≤ w'.heap.size ∧ (h1 ≤ l2 ∨ h2 ≤ l1)) ∧ Own.ok ⟨l1, h1, 3, 1, A, F.safe.length, c, ints F.safe⟩ w' ∧ Own.ok ⟨l2, h2, 3, 1, B, F.words.length, d, ints F.words⟩ w' ∧ Below w.heap.size w w'
abbrev Rows2 (w w' : World) (A B : Option Addr) (c d : Nat) (F : LD) : Prop := RowsAt w.heap.size w w' A B c d F
/-- what comes back: a link with rows of its own -/
def FreshL (w w' : World) (e : Ending) (F : LD × Int) : Prop :=
  ∃ A c B d, e = .returned (.tuple #[linkV F.1.st F.1.wt (.slice A F.1.safe.length c) (.slice B F.1.words.length d) F.1.seq F.1.age F.1.fresh, .int .i64 F.2]) ∧ Rows2 w w' A B c d F.1

theorem ok_set {o : Own} {w : World} {p : Addr} {u : Value} (h : o.ok w) (hp : p.block < o.lo) : o.ok (w.setCell p u) := ⟨ownsRow_setCell_below h.1 hp u, h.2⟩
theorem ok_below {o : Own} {w w' : World} (h : o.ok w) (hb : Below w.heap.size w w') : o.ok w' := ⟨own_below h.1 hb, h.2⟩
theorem ok_lo {w : World} {lo lo' hi sz n c : Nat} {e : TypeId} {A : Option Addr} {xs : List Value} (h : Own.ok ⟨lo, hi, e, sz, A, n, c, xs⟩ w) (hl : lo' ≤ lo) : Own.ok ⟨lo', hi, e, sz, A, n, c, xs⟩ w := ⟨own_weaken h.1 hl, h.2⟩
theorem ok_hi {w : World} {lo hi hi' sz n c : Nat} {e : TypeId} {A : Option Addr} {xs : List Value} (h : Own.ok ⟨lo, hi, e, sz, A, n, c, xs⟩ w) (hl : hi ≤ hi') : Own.ok ⟨lo, hi', e, sz, A, n, c, xs⟩ w := ⟨h.1, fun a ha => Nat.lt_of_lt_of_le (h.2 a ha) hl⟩

section
variable {base base' : Nat} {w w' w2 : World} {A B : Option Addr} {c d : Nat} {F : LD}
theorem RowsAt.set (h : RowsAt base w w' A B c d F) {p : Addr} (hp : p.block < base) (hw : w.heap.size ≤ p.block) (u : Value) : RowsAt base w (w'.setCell p u) A B c d F := by
  obtain ⟨l1, h1, l2, h2, hm, o1, o2, hb⟩ := h
  exact ⟨l1, h1, l2, h2, by simpa using hm, ok_set o1 (by simp only; omega), ok_set o2 (by simp only; omega), hb.setCell hw u⟩
theorem RowsAt.below (h : RowsAt base w w' A B c d F) (hb2 : Below w'.heap.size w' w2) : RowsAt base w w2 A B c d F := by
  obtain ⟨l1, h1, l2, h2, hm, o1, o2, hb⟩ := h
  have hs := hb2.size
  have hs1 := hb.size
  exact ⟨l1, h1, l2, h2, by omega, ok_below o1 hb2, ok_below o2 hb2, hb.trans (hb2.mono hs1)⟩
theorem RowsAt.alloc (h : RowsAt base w w' A B c d F) (o : Obj) : RowsAt base w (w'.alloc o) A B c d F := h.below (below_alloc o)
theorem RowsAt.drewN (h : RowsAt base w w' A B c d F) (k : Nat) : RowsAt base w (w'.drewN k) A B c d F := by
  obtain ⟨l1, h1, l2, h2, hm, o1, o2, hb⟩ := h
  exact ⟨l1, h1, l2, h2, hm, o1, o2, below_drewN hb k⟩
theorem RowsAt.range1 (h : RowsAt base w w' A B c d F) : ∀ a, A = some a → base ≤ a.block ∧ a.block < w'.heap.size := by
  obtain ⟨l1, h1, l2, h2, hm, o1, o2, hb⟩ := h
  intro a ha
  have := St.range (o := ⟨l1, h1, 3, 1, A, F.safe.length, c, ints F.safe⟩) (St.push (St.nil w') o1) (List.Mem.head _) a ha
  simp only at this
  omega
theorem RowsAt.range2 (h : RowsAt base w w' A B c d F) : ∀ a, B = some a → base ≤ a.block ∧ a.block < w'.heap.size := by
  obtain ⟨l1, h1, l2, h2, hm, o1, o2, hb⟩ := h
  intro a ha
  have := St.range (o := ⟨l2, h2, 3, 1, B, F.words.length, d, ints F.words⟩) (St.push (St.nil w') o2) (List.Mem.head _) a ha
  simp only at this
  omega
theorem RowsAt.weaken (h : RowsAt base w w' A B c d F) (hb' : base' ≤ base) : RowsAt base' w w' A B c d F := by
  obtain ⟨l1, h1, l2, h2, hm, o1, o2, hb⟩ := h
  exact ⟨l1, h1, l2, h2, by omega, o1, o2, hb⟩
theorem RowsAt.from_ {w0 : World} (h : RowsAt base w w' A B c d F) (hb0 : Below w0.heap.size w0 w) : RowsAt base w0 w' A B c d F := by
  obtain ⟨l1, h1, l2, h2, hm, o1, o2, hb⟩ := h
  exact ⟨l1, h1, l2, h2, hm, o1, o2, hb0.trans (hb.mono hb0.size)⟩
theorem rows2_nil (F : LD) (h1 : F.safe = []) (h2 : F.words = []) (hb : Below w.heap.size w w') : Rows2 w w' none none 0 0 F := by
  have hs := hb.size
  refine ⟨w'.heap.size, w'.heap.size, w'.heap.size, w'.heap.size, by omega, ⟨?_, fun a h => by cases h⟩, ⟨?_, fun a h => by cases h⟩, hb⟩
  · simp only [h1]
    exact World.ownsRow_nil _ _ _ _
  · simp only [h2]
    exact World.ownsRow_nil _ _ _ _
theorem rows2_mid (mid : Nat) (m1 : w.heap.size ≤ mid) (m2 : mid ≤ w'.heap.size) (o1 : Own.ok ⟨w.heap.size, mid, 3, 1, A, F.safe.length, c, ints F.safe⟩ w')
    (o2 : Own.ok ⟨mid, w'.heap.size, 3, 1, B, F.words.length, d, ints F.words⟩ w') (hb : Below w.heap.size w w') : Rows2 w w' A B c d F :=
  ⟨w.heap.size, mid, mid, w'.heap.size, by omega, o1, o2, hb⟩
end

theorem RowsAt.bel {base : Nat} {w w' : World} {A B : Option Addr} {c d : Nat} {F : LD} (h : RowsAt base w w' A B c d F) : Below w.heap.size w w' := by
  obtain ⟨_, _, _, _, _, _, _, hb⟩ := h
  exact hb
theorem RowsAt.safe {base : Nat} {w w' : World} {A B : Option Addr} {c d : Nat} {F : LD} (h : RowsAt base w w' A B c d F) : Rd w' 1 A F.safe.length (ints F.safe) := by
  obtain ⟨_, _, _, _, _, o, _, _⟩ := h
  exact Rd.own o.1
theorem RowsAt.words {base : Nat} {w w' : World} {A B : Option Addr} {c d : Nat} {F : LD} (h : RowsAt base w w' A B c d F) : Rd w' 1 B F.words.length (ints F.words) := by
  obtain ⟨_, _, _, _, _, _, o, _⟩ := h
  exact Rd.own o.1

theorem grow_setCell (w : World) (p : Addr) (u : Value) : w.grownBy (w.setCell p u) (some p.block) := ⟨rfl, rfl, rfl, by simp [World.setCell], fun k _ hne => Below.heap_setCell w p u k (fun e => hne (by rw [e]))⟩
theorem ok_set_hi {o : Own} {w : World} {p : Addr} {u : Value} (h : o.ok w) (hp : o.hi ≤ p.block) : o.ok (w.setCell p u) :=
  ⟨own_grown h.1 (grow_setCell w p u) (fun g hg e => by
    injection e with e
    have hA : o.A = some ⟨g, 0, none⟩ ∨ ∃ a, o.A = some a ∧ a.block = g := by
      cases hA : o.A with
      | none => rw [hA] at hg; simp [Value.ownBlock] at hg
      | some a => rw [hA] at hg; simp [Value.ownBlock] at hg; exact .inr ⟨a, rfl, hg⟩
    rcases hA with hA | ⟨a, hA, ha⟩
    · have := h.2 _ hA
      simp only at this
      omega
    · have := h.2 _ hA
      omega), h.2⟩

/-- the two rows of a link that is new, from block base on, all below block top -/
def RowsIn (base top : Nat) (w w' : World) (A B : Option Addr) (c d : Nat) (F : LD) : Prop :=
  ∃ l1 h1 l2 h2, (base ≤ l1 ∧ base ≤ l2 ∧ l1 ≤ h1 ∧ l2 ≤ h2 ∧ h1 ≤ top ∧ h2 ≤ top ∧ top ≤ w'.heap.size ∧ (h1 ≤ l2 ∨ h2 ≤ l1)) ∧ Own.ok ⟨l1, h1, 3, 1, A, F.safe.length, c, ints F.safe⟩ w' ∧ Own.ok ⟨l2, h2, 3, 1, B, F.words.length, d, ints F.words⟩ w' ∧ Below w.heap.size w w'
section
variable {base base' top : Nat} {w w' w2 : World} {A B : Option Addr} {c d : Nat} {F G : LD}
theorem RowsIn.at (h : RowsIn base top w w' A B c d F) : RowsAt base w w' A B c d F := by
  obtain ⟨l1, h1, l2, h2, hm, o1, o2, hb⟩ := h
  exact ⟨l1, h1, l2, h2, by omega, o1, o2, hb⟩
theorem RowsAt.in (h : RowsAt base w w' A B c d F) : RowsIn base w'.heap.size w w' A B c d F := by
  obtain ⟨l1, h1, l2, h2, hm, o1, o2, hb⟩ := h
  exact ⟨l1, h1, l2, h2, by omega, o1, o2, hb⟩
theorem RowsIn.set (h : RowsIn base top w w' A B c d F) {p : Addr} (hp : p.block < base ∨ top ≤ p.block) (hw : w.heap.size ≤ p.block) (u : Value) : RowsIn base top w (w'.setCell p u) A B c d F := by
  obtain ⟨l1, h1, l2, h2, hm, o1, o2, hb⟩ := h
  refine ⟨l1, h1, l2, h2, by simpa using hm, ?_, ?_, hb.setCell hw u⟩
  · rcases hp with hp | hp
    · exact ok_set o1 (by simp only; omega)
    · exact ok_set_hi o1 (by simp only; omega)
  · rcases hp with hp | hp
    · exact ok_set o2 (by simp only; omega)
    · exact ok_set_hi o2 (by simp only; omega)
theorem RowsIn.below (h : RowsIn base top w w' A B c d F) (hb2 : Below w'.heap.size w' w2) : RowsIn base top w w2 A B c d F := by
  obtain ⟨l1, h1, l2, h2, hm, o1, o2, hb⟩ := h
  have hs := hb2.size
  have hs1 := hb.size
  exact ⟨l1, h1, l2, h2, by omega, ok_below o1 hb2, ok_below o2 hb2, hb.trans (hb2.mono hs1)⟩
theorem RowsIn.alloc (h : RowsIn base top w w' A B c d F) (o : Obj) : RowsIn base top w (w'.alloc o) A B c d F := h.below (below_alloc o)
theorem RowsIn.drewN (h : RowsIn base top w w' A B c d F) (k : Nat) : RowsIn base top w (w'.drewN k) A B c d F := by
  obtain ⟨l1, h1, l2, h2, hm, o1, o2, hb⟩ := h
  exact ⟨l1, h1, l2, h2, hm, o1, o2, below_drewN hb k⟩
theorem RowsIn.drew (h : RowsIn base top w w' A B c d F) : RowsIn base top w w'.drew A B c d F := h.drewN 1
theorem RowsIn.weaken (h : RowsIn base top w w' A B c d F) (hb' : base' ≤ base) : RowsIn base' top w w' A B c d F := by
  obtain ⟨l1, h1, l2, h2, hm, o1, o2, hb⟩ := h
  exact ⟨l1, h1, l2, h2, by omega, o1, o2, hb⟩
theorem RowsIn.from_ {w0 : World} (h : RowsIn base top w w' A B c d F) (hb0 : Below w0.heap.size w0 w) : RowsIn base top w0 w' A B c d F := by
  obtain ⟨l1, h1, l2, h2, hm, o1, o2, hb⟩ := h
  exact ⟨l1, h1, l2, h2, hm, o1, o2, hb0.trans (hb.mono hb0.size)⟩
theorem RowsIn.fields (h : RowsIn base top w w' A B c d F) (h1 : F.safe = G.safe) (h2 : F.words = G.words) : RowsIn base top w w' A B c d G := by
  unfold RowsIn at h ⊢
  rw [← h1, ← h2]
  exact h
theorem RowsIn.bel (h : RowsIn base top w w' A B c d F) : Below w.heap.size w w' := h.at.bel
theorem RowsIn.safe (h : RowsIn base top w w' A B c d F) : Rd w' 1 A F.safe.length (ints F.safe) := h.at.safe
theorem RowsIn.words (h : RowsIn base top w w' A B c d F) : Rd w' 1 B F.words.length (ints F.words) := h.at.words
theorem RowsIn.range1 (h : RowsIn base top w w' A B c d F) : ∀ a, A = some a → base ≤ a.block ∧ a.block < top := by
  obtain ⟨l1, h1, l2, h2, hm, o1, o2, hb⟩ := h
  intro a ha
  have := St.range (o := ⟨l1, h1, 3, 1, A, F.safe.length, c, ints F.safe⟩) (St.push (St.nil w') o1) (List.Mem.head _) a ha
  simp only at this
  omega
end

set_option maxHeartbeats 400000 in
theorem copyOf_any (A : Option Addr) (n c : Nat) (zs : List Int) (w : World) (hr : Rd w 1 A n (ints zs)) (hn : n * 8 ≤ 140737488351232) :
    Calls Try.prog 31 #[.slice A n c] w fun e w' => ∃ A' c', e = .returned (.slice A' n c') ∧ w'.ownsRow w.heap.size 3 1 (.slice A' n c') n (ints zs) ∧ Below w.heap.size w w' := by
  obtain ⟨i0, hi0, hz0, hz1, hz2⟩ := info_parts int_info
  have HR := Lib.hid hr
  clear hr
  go_enter Try.func31, Try.ntmps31
  go_wp2_with (at_builtin; refine wpList_append_rd _ rfl (.const (.slice none 0 0)) (.tmp 3) 22 rfl w.heap.size 3 i0 _ 1 8 Try.underlying22 hi0 hz0 hz1 hz2 rfl (by omega) _ 0 [] rfl (World.ownsRow_nil _ _ _ _) A n c (ints zs) rfl HR.out (ones _ _) ?_ ?_ ?_ ?_)
  · unfold maxLen; omega
  · omega
  · simp
  · intro v' w1 ho1 hg1 hat1
    obtain ⟨A', c', rfl, _⟩ := own_shape ho1
    try simp only [Nat.zero_add, List.nil_append] at ho1
    have HO := Lib.hid ho1
    have HG := Lib.hid (grow_none (show World.grownBy _ w1 none from hg1))
    clear ho1 hg1 hat1
    go_wp2
    go_ret
    exact ⟨A', c', by first | rfl | simp, HO.out, HG.out⟩

set_option maxHeartbeats 1600000 in
theorem sameLink_eq (st wt : Int) (A B C D : Option Addr) (n m c1 c2 c3 c4 : Nat) (seq age : Int) (fresh : Bool) (xs ys : List Int) (w : World)
    (hA : Rd w 1 A n (ints xs)) (hB : Rd w 1 B m (ints ys)) (hC : Rd w 1 C n (ints xs)) (hD : Rd w 1 D m (ints ys)) (hn : n ≤ maxLen) (hm : m ≤ maxLen) :
    Calls Try.prog 36 #[linkV st wt (.slice A n c1) (.slice B m c2) seq age fresh, linkV st wt (.slice C n c3) (.slice D m c4) seq age fresh] w fun e w' => e = .returned (.bool true) ∧ Below w.heap.size w w' := by
  have HA := Lib.hid hA
  have HB := Lib.hid hB
  have HC := Lib.hid hC
  have HD := Lib.hid hD
  clear hA hB hC hD
  go_enter Try.func36, Try.ntmps36
  go_wp2_with fail
  refine (sameInts_any A C n n c1 c3 xs xs _ ((HA.out.alloc _).alloc _) ((HC.out.alloc _).alloc _) hn).mono ?_
  rintro e w' ⟨rfl, q, rfl⟩
  rw [show decide (xs = xs) = true from by simp]
  go_wp2_with fail
  refine (sameInts_any B D m m c2 c4 ys ys _ (((HB.out.alloc _).alloc _).drewN _) (((HD.out.alloc _).alloc _).drewN _) hm).mono ?_
  rintro e w' ⟨rfl, q2, rfl⟩
  rw [show decide (ys = ys) = true from by simp]
  go_wp2
  go_ret
  exact ⟨rfl, below_drewN ((below_alloc _).alloc (by simp) _) _⟩

/-- an answer that is nothing but a fault -/
theorem fault_end {w w' : World} (k : Int) (hb : Below w.heap.size w w') : FreshL w w' (.returned (.tuple #[linkV 0 0 (.slice none 0 0) (.slice none 0 0) 0 0 false, .int .i64 k])) (zeroL, k) :=
  ⟨none, 0, none, 0, rfl, rows2_nil _ rfl rfl hb⟩
end Go.Proofs.Ytdncdmibmopilaa.Bus
