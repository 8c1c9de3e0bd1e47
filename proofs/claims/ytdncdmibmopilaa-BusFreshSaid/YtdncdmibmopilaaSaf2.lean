/-
  The walk of the law BusSafe. Conditions: the arguments read, within the form's own reach.
-/
import Derived.Test.YtdncdmibmopilaaSaf1
import Derived.Deep.RegionLaw
namespace Go.Proofs.Ytdncdmibmopilaa.Bus
open Go.RowKit Go.Proofs.Ytdncdmibmopilaa.W Go.Proofs.Ytdncdmibmopilaa.Ints Go.Proofs.Ytdncdmibmopilaa.Byt Go.Proofs.Ytdncdmibmopilaa.Num Go.Proofs.Ytdncdmibmopilaa.Keep

def lF (zs : List Int) (k : Nat) : List Int := (zs.take k).map fun z => pickN z 65536
def sF (k : Nat) : List Int := (List.range k).map fun i : Nat => (i : Int)
theorem lF_len {zs : List Int} {k : Nat} (h : k ≤ zs.length) : (lF zs k).length = k := by simp [lF, h]
theorem sF_len (k : Nat) : (sF k).length = k := by simp [sF]
theorem lF_succ {zs : List Int} {k : Nat} (h : k < zs.length) : lF zs (k + 1) = lF zs k ++ [pickN (zs.getD k 0) 65536] := by
  simp only [lF]
  rw [List.take_succ_eq_append_getElem h, List.map_append]
  simp [List.getD_eq_getElem?_getD, List.getElem?_eq_getElem h]
theorem sF_succ (k : Nat) : sF (k + 1) = sF k ++ [(k : Int)] := by simp [sF, List.range_succ]
theorem spelt_lF {zs : List Int} {k : Nat} (h : k ≤ 60) : speltE (lF zs k) = 0 := by
  have hl : (lF zs k).length ≤ 60 := by simp [lF]; omega
  have ha : (lF zs k).all wordB = true := by
    rw [List.all_eq_true]
    intro x hx
    simp only [lF, List.mem_map] at hx
    obtain ⟨z, _, rfl⟩ := hx
    have := pick_lt (n := z) (m := 65536) (by omega)
    simp [wordB]; omega
  unfold speltE
  rw [if_neg (by omega), if_pos ha]
theorem spelt_sF {k : Nat} (h : k ≤ 60) : speltE (sF k) = 0 := by
  have hl := sF_len k
  have ha : (sF k).all wordB = true := by
    rw [List.all_eq_true]
    intro x hx
    simp only [sF, List.mem_map, List.mem_range] at hx
    obtain ⟨z, hz, rfl⟩ := hx
    simp [wordB]; omega
  unfold speltE
  rw [if_neg (by omega), if_pos ha]
theorem ints_in2 {H : Type} {enc : TypeId × Value → H} {w : World} {B : Option Addr} {m d : Nat} (h : O.Op enc Try.prog w 22 [.slice B m d]) : ∃ ys, Rd w 1 B m (ints ys) ∧ m * 8 ≤ 140737488351232 ∧ ∀ z ∈ ys, -9223372036854775808 ≤ z ∧ z ≤ 9223372036854775807 := by
  obtain ⟨A, n, c, zs, e, hnc, hc, hr, hb, _⟩ := h.ints Try.underlying22 Try.underlying3 (by kernel_rfl) (by kernel_rfl)
  simp only [List.cons.injEq, Value.slice.injEq, and_true] at e
  obtain ⟨rfl, rfl, rfl⟩ := e
  exact ⟨zs, hr, by omega, hb⟩
theorem wf64 {x : Int} (h : (Lit.int .i64 x).wf = true) : -9223372036854775808 ≤ x ∧ x ≤ 9223372036854775807 := by
  simpa [Lit.wf, IntKind.min, IntKind.max, IntKind.signed, IntKind.bits] using h
theorem u8_xor (a b : Nat) (ha : a < 256) (hb : b < 256) : bits .xor .u8 (a : Int) (b : Int) = ((a ^^^ b : Nat) : Int) := by
  have hx : a ^^^ b < 2 ^ 8 := Nat.xor_lt_two_pow (by omega) (by omega)
  have ea : (BitVec.ofInt 8 (a : Int)).toNat = a := by rw [BitVec.ofInt_natCast, BitVec.toNat_ofNat]; exact Nat.mod_eq_of_lt (by omega)
  have eb : (BitVec.ofInt 8 (b : Int)).toNat = b := by rw [BitVec.ofInt_natCast, BitVec.toNat_ofNat]; exact Nat.mod_eq_of_lt (by omega)
  show IntKind.u8.wrap ((BitVec.ofInt 8 (a : Int) ^^^ BitVec.ofInt 8 (b : Int)).toNat : Int) = _
  rw [BitVec.toNat_xor, ea, eb]
  simp [IntKind.wrap, IntKind.bits, IntKind.signed]
  omega
theorem u8_pow {s : Nat} (h : s < 8) : IntKind.u8.wrap ((2 : Int) ^ s) = ((UInt8.ofNat (2 ^ s)).toNat : Int) := by
  have : s = 0 ∨ s = 1 ∨ s = 2 ∨ s = 3 ∨ s = 4 ∨ s = 5 ∨ s = 6 ∨ s = 7 := by omega
  rcases this with rfl | rfl | rfl | rfl | rfl | rfl | rfl | rfl <;> decide
theorem pow8 {s : Nat} (h : s < 8) : (UInt8.ofNat (2 ^ s)).toNat = 2 ^ s := by
  have : s = 0 ∨ s = 1 ∨ s = 2 ∨ s = 3 ∨ s = 4 ∨ s = 5 ∨ s = 6 ∨ s = 7 := by omega
  rcases this with rfl | rfl | rfl | rfl | rfl | rfl | rfl | rfl <;> decide
theorem xor_mul (a b p : Nat) : (a ^^^ b) * 2 ^ p = a * 2 ^ p ^^^ b * 2 ^ p := by
  apply Nat.eq_of_testBit_eq
  intro i
  simp only [Nat.testBit_xor, ← Nat.shiftLeft_eq, Nat.testBit_shiftLeft]
  by_cases h : p ≤ i <;> simp [h]
theorem numB_set (b : UInt8) : ∀ (cs : List UInt8) (p : Nat), p < cs.length → numB (cs.set p (cs.getD p 0 ^^^ b)) = numB cs ^^^ b.toNat * 2 ^ (8 * p)
  | [], p, h => by simp at h
  | a :: cs, 0, _ => by
    show (a ^^^ b).toNat + 256 * numB cs = (a.toNat + 256 * numB cs) ^^^ b.toNat * 2 ^ 0
    rw [join8, join8, UInt8.toNat_xor, Nat.pow_zero, Nat.mul_one, Nat.xor_assoc, Nat.xor_assoc, Nat.xor_comm b.toNat]
  | a :: cs, p + 1, h => by
    show a.toNat + 256 * numB (cs.set p (cs.getD p 0 ^^^ b)) = (a.toNat + 256 * numB cs) ^^^ b.toNat * 2 ^ (8 * (p + 1))
    rw [join8, join8, numB_set b cs p (by simpa using h), xor_mul, ← Nat.xor_assoc, show 8 * (p + 1) = 8 * p + 8 by omega, Nat.pow_add, ← Nat.mul_assoc]
theorem turn_num {cs : List UInt8} {F acc P j p s : Nat} {x : UInt8} (hx : cs.getD p 0 = x) (hp : p = (P + j) / 8) (hs : s = (P + j) % 8) (hl : p < cs.length) (h : numB cs = F ^^^ acc * 2 ^ P) :
    numB (cs.set p (x ^^^ UInt8.ofNat (2 ^ s))) = F ^^^ (acc ^^^ 2 ^ j) * 2 ^ P := by
  rw [← hx, numB_set _ cs p hl, h, xor_mul, Nat.xor_assoc, pow8 (by omega), ← Nat.pow_add, ← Nat.pow_add, show s + 8 * p = j + P by omega]
theorem turn_acc {acc j : Nat} (h : acc < 2 ^ j) : acc ^^^ 2 ^ j < 2 ^ (j + 1) ∧ acc ^^^ 2 ^ j ≠ 0 := by
  refine ⟨Nat.xor_lt_two_pow (by rw [Nat.pow_succ]; omega) (by rw [Nat.pow_succ]; have := Nat.two_pow_pos j; omega), fun e => ?_⟩
  have := congrArg (· ^^^ 2 ^ j) e
  simp only [Nat.xor_assoc, Nat.xor_self, Nat.xor_zero, Nat.zero_xor] at this
  omega
theorem refused {st wt : Int} {xs ys : List Int} {seq age : Int} {fresh : Bool} {o : (Int × Int × List Int) × Int} (hc : couldB st wt xs ys seq age fresh = true) (h : o.2 ≠ 0) : heardF st wt xs ys seq age fresh o = (⟨st, wt, xs, ys, seq, age, fresh⟩, o.2) := by
  unfold heardF
  rw [if_pos hc, if_pos (by simpa using h)]
theorem ne_grown {v v' u : Value} {n : Nat} (h : v'.ownBlock = v.ownBlock ∨ v'.ownBlock = some n) (hv : ∀ x, v.ownBlock = some x → u.ownBlock ≠ some x) (hu : ∀ x, u.ownBlock = some x → x < n) : ∀ x, v'.ownBlock = some x → u.ownBlock ≠ some x := by
  intro x hx
  rcases h with h | h
  · exact hv x (by rw [← h]; exact hx)
  · intro e
    have := hu x e
    rw [h] at hx
    injection hx with hx
    omega

theorem own_range {w : World} {base sz n c : Nat} {e : TypeId} {A : Option Addr} {xs : List Value} (h : w.ownsRow base e sz (.slice A n c) n xs) : n ≤ c ∧ c ≤ maxLen ∧ ∀ a, A = some a → base ≤ a.block ∧ a.block < w.heap.size := by
  obtain ⟨A', c', he, h1, h2, _, h3⟩ := own_shape h
  injection he with ea _ ec
  subst ea ec
  exact ⟨h1, h2, h3⟩
theorem grow7 (w : World) (g : Nat) (a b c d e f h : Value) : w.grownBy (((((((w.setCell ⟨g, 0, none⟩ a).setCell ⟨g, 1, none⟩ b).setCell ⟨g, 2, none⟩ c).setCell ⟨g, 3, none⟩ d).setCell ⟨g, 4, none⟩ e).setCell ⟨g, 5, none⟩ f).setCell ⟨g, 6, none⟩ h) (some g) := by
  refine Grow.trans (Grow.trans (Grow.trans (Grow.trans (Grow.trans (Grow.trans (grownBy_setAt w g 0 a) (grownBy_setAt _ g 1 b) ?_) (grownBy_setAt _ g 2 c) ?_) (grownBy_setAt _ g 3 d) ?_) (grownBy_setAt _ g 4 e) ?_) (grownBy_setAt _ g 5 f) ?_) (grownBy_setAt _ g 6 h) ?_
  all_goals exact fun _ _ => .inl rfl
theorem blk7 {w : World} {g : Nat} {t : TypeId} {a0 a1 a2 a3 a4 a5 a6 : Value} (k : Blk w g t #[a0, a1, a2, a3, a4, a5, a6]) (a b c d e f h : Value) :
    Blk (((((((w.setCell ⟨g, 0, none⟩ a).setCell ⟨g, 1, none⟩ b).setCell ⟨g, 2, none⟩ c).setCell ⟨g, 3, none⟩ d).setCell ⟨g, 4, none⟩ e).setCell ⟨g, 5, none⟩ f).setCell ⟨g, 6, none⟩ h) g t #[a, b, c, d, e, f, h] := by
  simpa using ((((((k.put 0 a).put 1 b).put 2 c).put 3 d).put 4 e).put 5 f).put 6 h
set_option maxRecDepth 100000 in
set_option maxHeartbeats 6400000 in
theorem walk_Safe (H : Type) (enc : TypeId × Value → H) (w : World) (A : Option Addr) (n c : Nat) (ho : O.Op enc Try.prog w 22 [.slice A n c]) (seq : Int) (hseq : (Lit.int .i64 seq).wf = true) (watch : Int) (hwatch : (Lit.int .i64 watch).wf = true) (at_ : Int) (hat : (Lit.int .i64 at_).wf = true) (bts : Int) (hbits : (Lit.int .i64 bts).wf = true) :
    Calls Try.prog 9 #[.slice A n c, .int .i64 seq, .int .i64 watch, .int .i64 at_, .int .i64 bts] w fun e w' => e = .returned (.bool true) ∧ Below w.heap.size w w' := by
  obtain ⟨i0, hi0, hz0, hz1, hz2⟩ := info_parts int_info
  obtain ⟨j0, hj0, hy0, hy1, hy2⟩ := info_parts u8_info
  obtain ⟨zs, hx, hn, hzs⟩ := ints_in2 ho
  obtain ⟨hq1, hq2⟩ := wf64 hseq
  obtain ⟨hv1, hv2⟩ := wf64 hwatch
  obtain ⟨ha1, ha2⟩ := wf64 hat
  obtain ⟨hb1, hb2⟩ := wf64 hbits
  have hlx := rd_len hx
  have HX := Lib.hid hx
  have HZ := Lib.hid hzs
  have HLX := Lib.hid hlx
  clear ho hseq hwatch hat hbits hx hzs hlx
  go_enter Try.func9, Try.ntmps9
  go_wp2_with fail
  refine (onward_any _).mono ?_
  rintro e w1 ⟨rfl, hb⟩
  have B1 := Lib.hid hb
  have z1 := hb.size
  clear hb
  go_wp2
  go_loopw [11, 12, 13] (fun lv sv i wr => ∃ k : Nat, k ≤ n ∧ k ≤ 60 ∧ i = .int .i64 k ∧ ∃ LA lc SA sc, lv = .slice LA k lc ∧ sv = .slice SA k sc ∧ Hid (wr.ownsRow w.heap.size 3 1 (.slice LA k lc) k (ints (lF zs k))) ∧ Hid (wr.ownsRow w.heap.size 3 1 (.slice SA k sc) k (ints (sF k))) ∧
    Hid (∀ x, (Value.slice LA k lc).ownBlock = some x → (Value.slice SA k sc).ownBlock ≠ some x) ∧ Hid (Below w.heap.size w wr)) (fun _ _ i _ => n - (intOf i).toNat)
  case atStart => exact ⟨0, Nat.zero_le _, by omega, rfl, none, 0, none, 0, rfl, rfl, World.ownsRow_nil _ _ _ _, World.ownsRow_nil _ _ _ _, (by intro x hx; simp [Value.ownBlock] at hx), B1⟩
  case round =>
    obtain ⟨k, hk, hk60, rfl, LA, lc, SA, sc, rfl, rfl, OL, OS, ND, BR⟩ := hrel
    clear B1
    by_cases hlt : k < n ∧ k < 60
    · obtain ⟨hlt1, hlt2⟩ := hlt
      obtain ⟨b, o, rfl, hc⟩ := rd_at (HX.out.below BR.out) (by omega)
      have h1 := hc k hlt1
      clear hc
      have hub : -9223372036854775808 ≤ zs.getD k 0 ∧ zs.getD k 0 ≤ 9223372036854775807 := by
        have hlz : k < zs.length := by rw [HLX.out]; exact hlt1
        have := HZ.out zs[k] (List.getElem_mem hlz)
        simpa [List.getD_eq_getElem?_getD, List.getElem?_eq_getElem hlz] using this
      generalize hu : zs.getD k 0 = u at h1 hub
      have HU := Lib.hid hu
      clear hu
      have hsz := BR.out.size
      have hOS := OS.out
      have hOL := OL.out
      go_wp2_with fail
      refine (picked_any u 65536 _ hub.1 hub.2 (by omega) (by omega)).mono ?_
      rintro e w2 ⟨rfl, rfl⟩
      go_wp2_with (at_builtin; refine wpList_append_rd _ rfl (.tmp 42) (.tmp 48) 22 rfl w.heap.size 3 i0 _ 1 8 Try.underlying22 hi0 hz0 hz1 hz2 rfl (by omega) (.slice LA k lc) k (ints (lF zs k)) rfl (own_below hOL (below_alloc _)) _ 1 1 [.int .i64 (pickN u 65536)] rfl (rd_new _ _ _) ?_ ?_ ?_ ?_ ?_)
      · simp [Value.oneCell']
      · unfold maxLen; omega
      · omega
      · simp; omega
      intro v3 w3 o3 g3 at3
      have o3s := (own_grown (own_below hOS (below_alloc (.cells #[.int .i64 (pickN u 65536)] 3))) g3 (fun g hg e => ND.out g e.symm hg))
      have l3 : ∀ x, (Value.slice SA k sc).ownBlock = some x → x < w2.heap.size := fun x hx => (OS.out.lt _ hx).2
      have n3 := ne_grown (u := .slice SA k sc) (at3.imp id (fun h => h)) ND.out (fun x hx => by have := l3 x hx; simp; omega)
      obtain ⟨LA3, lc3, rfl, hs1, hs2, _⟩ := own_shape o3
      have BR4 : Hid (Below w.heap.size w w3) := BR.out.trans (((below_alloc (.cells #[.int .i64 (pickN u 65536)] 3)).mono hsz).trans (Grow.below g3 (by simp; omega) (fun g hg => (OL.out.lt _ hg).1)))
      have O3 := Lib.hid o3
      have O3S := Lib.hid o3s
      have N3 := Lib.hid n3
      have hsz3 := BR4.out.size
      clear o3 g3 at3 o3s l3 n3 hOS hOL
      have hO3S := O3S.out
      go_wp2_with (at_builtin; refine wpList_append_rd _ rfl (.tmp 50) (.tmp 52) 22 rfl w.heap.size 3 i0 _ 1 8 Try.underlying22 hi0 hz0 hz1 hz2 rfl (by omega) (.slice SA k sc) k (ints (sF k)) rfl (own_below hO3S (below_alloc _)) _ 1 1 [.int .i64 (k : Int)] rfl (rd_new _ _ _) ?_ ?_ ?_ ?_ ?_)
      · simp [Value.oneCell']
      · unfold maxLen; omega
      · omega
      · simp; omega
      intro v4 w4 o4 g4 at4
      have N3' : ∀ x, (Value.slice SA k sc).ownBlock = some x → (Value.slice LA3 (k + 1) lc3).ownBlock ≠ some x := fun x hx e => N3.out x e hx
      have o4l := (own_grown (own_below O3.out (below_alloc (.cells #[.int .i64 (k : Int)] 3))) g4 (fun g hg e => N3' g e.symm hg))
      have l4 : ∀ x, (Value.slice LA3 (k + 1) lc3).ownBlock = some x → x < w3.heap.size := fun x hx => (O3.out.lt _ hx).2
      have n4 := ne_grown (u := .slice LA3 (k + 1) lc3) (at4.imp id (fun h => h)) N3' (fun x hx => by have := l4 x hx; simp; omega)
      obtain ⟨SA4, sc4, rfl, hs3, hs4, _⟩ := own_shape o4
      have b4 : Hid (Below w.heap.size w w4) := BR4.out.trans (((below_alloc (.cells #[.int .i64 (k : Int)] 3)).mono hsz3).trans (Grow.below g4 (by simp; omega) (fun g hg => (hO3S.lt _ hg).1)))
      have O4 := Lib.hid o4
      have O4L := Lib.hid o4l
      have N4 := Lib.hid n4
      clear o4 g4 at4 o4l l4 n4 hO3S N3'
      go_wp2
      go_roundw
      case rel =>
        refine ⟨k + 1, by omega, by omega, by go_num, LA3, lc3, SA4, sc4, rfl, rfl, ?_, ?_, fun x hx e => N4.out x e hx, b4⟩
        · rw [lF_succ (by rw [HLX.out]; exact hlt1), HU.out]
          refine Lib.hid ?_
          simpa [ints] using O4L.out
        · rw [sF_succ]
          refine Lib.hid ?_
          simpa [ints] using O4.out
      case measure => simp [intOf]; omega
    · have hkk : n ≤ k ∨ (k < n ∧ 60 ≤ k) := by omega
      have zR := BR.out.size
      obtain ⟨wq, hwq⟩ : ∃ wq : World, wq = wr := ⟨_, rfl⟩
      subst hwq
      obtain ⟨_, _, rgL⟩ := own_range OL.out
      obtain ⟨_, _, rgS⟩ := own_range OS.out
      have RL := Lib.hid (Rd.own OL.out)
      have RS := Lib.hid (Rd.own OS.out)
      have hsq := pick_lt (n := seq) (m := 256) (by omega)
      have hwv := pick_lt (n := watch) (m := 30) (by omega)
      have hlL : (lF zs k).length = k := lF_len (by rw [HLX.out]; exact hk)
      have hlS : (sF k).length = k := sF_len k
      have es : linkedF 9 (1 + pickN watch 30) (sF k) = (⟨9, 1 + pickN watch 30, sF k, sF k, 0, 0, false⟩, 0) := started (by omega) (by omega) (by omega) (by omega) (spelt_sF hk60)
      have e1 : frameF 9 (pickN seq 256) (lF zs k) = (frameB 9 (pickN seq 256).toNat (lF zs k), 0) := framed (by omega) (by omega) (by omega) (by omega) (spelt_lF hk60)
      have e2 : frameF 9 ((pickN seq 256 + 1) % 256) (sF k) = (frameB 9 ((pickN seq 256 + 1) % 256).toNat (sF k), 0) := framed (by omega) (by omega) (by omega) (by omega) (spelt_sF hk60)
      have e3 : heardF 9 (1 + pickN watch 30) (sF k) (sF k) 0 0 false (openF (frameB 9 (pickN seq 256).toNat (lF zs k))) = (⟨9, 1 + pickN watch 30, sF k, lF zs k, pickN seq 256, 0, true⟩, 0) := by
        have h := took (st := 9) (q := pickN seq 256) (xs := sF k) (zs := lF zs k) (by omega) (by omega) (by omega) (by omega) (spelt_lF hk60) (by omega) (could (st := 9) (wt := 1 + pickN watch 30) (xs := sF k) (ys := sF k) (seq := 0) (age := 0) (fresh := false) (by omega) (by omega) (by omega) (spelt_sF hk60) (spelt_sF hk60) rfl (by omega) (by omega) (by omega) (by omega) (.inr ⟨rfl, rfl⟩))
        simpa using h
      have hc4 : couldB 9 (1 + pickN watch 30) (sF k) (lF zs k) (pickN seq 256) 0 true = true := could (by omega) (by omega) (by omega) (spelt_sF hk60) (spelt_lF hk60) (by omega) (by omega) (by omega) (by omega) (by omega) (.inl rfl)
      have e4 : ∀ a : Int, 0 ≤ a → a < 1 + pickN watch 30 → tickF 9 (1 + pickN watch 30) (sF k) (lF zs k) (pickN seq 256) a true = (if a + 1 = 1 + pickN watch 30 then ⟨9, 1 + pickN watch 30, sF k, sF k, pickN seq 256, 0, false⟩ else ⟨9, 1 + pickN watch 30, sF k, lF zs k, pickN seq 256, a + 1, true⟩, 0) := by
        intro a h0 h1
        have := could (st := 9) (wt := 1 + pickN watch 30) (xs := sF k) (ys := lF zs k) (seq := pickN seq 256) (age := a) (fresh := true) (by omega) (by omega) (by omega) (spelt_sF hk60) (spelt_lF hk60) (by omega) (by omega) (by omega) h0 h1 (.inl rfl)
        simp [tickF, this]
      have o2 : (openF (frameB 9 ((pickN seq 256 + 1) % 256).toNat (sF k))).2 = 0 := by
        have h := open_frame (st := 9) (seq := (pickN seq 256 + 1) % 256) (by omega) (by omega) (by omega) (by omega) (spelt_sF hk60)
        rw [show (9 : Int).toNat = 9 from rfl] at h
        rw [h]
      have f1 := frame_len 9 (pickN seq 256).toNat (lF zs k)
      have f2 := frame_len 9 ((pickN seq 256 + 1) % 256).toNat (sF k)
      generalize frameB 9 (pickN seq 256).toNat (lF zs k) = F1 at *
      generalize frameB 9 ((pickN seq 256 + 1) % 256).toNat (sF k) = F2 at *
      have hm8 : (pickN seq 256 + 1).tmod 256 = (pickN seq 256 + 1) % 256 := Int.tmod_eq_emod_of_nonneg (by omega)
      generalize hV : pickN watch 30 = V at *
      generalize hS : pickN seq 256 = S at *
      generalize lF zs k = ls at *
      generalize sF k = ss at *
      have HV := Lib.hid hV
      have HS := Lib.hid hS
      have ES := Lib.hid es
      have E1 := Lib.hid e1
      have E2 := Lib.hid e2
      have E3 := Lib.hid e3
      have E4 := Lib.hid e4
      have O2 := Lib.hid o2
      have F1L := Lib.hid (f1.trans (by rw [hlL]))
      have F2L := Lib.hid (f2.trans (by rw [hlS]))
      have HLL := Lib.hid hlL
      have HLS := Lib.hid hlS
      have C4 := Lib.hid hc4
      have RGL := Lib.hid rgL
      have RGS := Lib.hid rgS
      clear hlt es e1 e2 e3 e4 o2 f1 f2 hlL hlS hc4 OL OS ND rgL rgS hV hS
      rcases hkk with hkn | ⟨hkn, hk2⟩
      · go_wp2_with fail
        refine (picked_any seq 256 _ hq1 hq2 (by omega) (by omega)).mono ?_
        rintro e w2 ⟨rfl, rfl⟩
        rw [HS.out]
        go_wp2_with fail
        refine (picked_any watch 30 _ hv1 hv2 (by omega) (by omega)).mono ?_
        rintro e w2 ⟨rfl, rfl⟩
        rw [HV.out]
        go_wp2_with fail
        refine (Start_any 9 (1 + V) SA k sc ss _ RS.out (by omega) (by omega)).mono ?_
        intro e w3 hf
        rw [ES.out] at hf
        obtain ⟨A3, c3, B3, d3, rfl, hb3, r3, s3, g3, j3⟩ := hf.rd
        simp only [HLS.out] at r3 s3 ⊢
        have z3 := hb3.size
        have HR3 := Lib.hid r3
        have HS3 := Lib.hid s3
        have HB3 := Lib.hid hb3
        clear hf hb3 r3 s3
        go_wp2_with fail
        refine (Frame_any 9 S LA k lc ls _ ((RL.out.below HB3.out).alloc _) (by omega)).mono ?_
        intro e w4 hf
        rw [E1.out] at hf
        obtain ⟨A4, c4, rfl, o4, hb4⟩ := hf
        simp only [F1L.out] at o4 ⊢
        have z4 := hb4.size
        simp only [World.size_alloc] at z4
        have k4 := (Blk.new w3 24 (linkC 9 (1 + V) (.slice A3 k c3) (.slice B3 k d3) 0 0 false)).below hb4
        have n4 := (below_alloc (.cells (linkC 9 (1 + V) (.slice A3 k c3) (.slice B3 k d3) 0 0 false) 24)).trans (hb4.mono (by simp))
        have RL4 := Lib.hid ((RL.out.below HB3.out).below n4)
        have RS4 := Lib.hid ((RS.out.below HB3.out).below n4)
        have HR4 := Lib.hid (HR3.out.below n4)
        have HS4 := Lib.hid (HS3.out.below n4)
        have BW4 := Lib.hid (BR.out.trans ((HB3.out.trans (n4.mono z3)).mono zR))
        have RF4 := Lib.hid (Rd.own o4)
        obtain ⟨hc41, hc42, rg4⟩ := own_range o4
        have G4 := Lib.hid rg4
        have K4 := Lib.hid k4
        have d4 := k4.cell
        have e4 := k4.frozen
        clear o4 hb4 n4 k4 rg4 RL RS HR3 HS3 HB3 BR
        have z41 : w3.heap.size < w4.heap.size := by omega
        go_wp2_with fail
        refine (Frame_any 9 ((S + 1) % 256) SA k sc ss _ RS4.out (by omega)).mono ?_
        intro e w5 hf
        rw [E2.out] at hf
        obtain ⟨A5, c5, rfl, o5, hb5⟩ := hf
        simp only [F2L.out] at o5 ⊢
        have z5 := hb5.size
        have k5 := K4.out.below hb5
        have RL5 := Lib.hid (RL4.out.below hb5)
        have RS5 := Lib.hid (RS4.out.below hb5)
        have HR5 := Lib.hid (HR4.out.below hb5)
        have HS5 := Lib.hid (HS4.out.below hb5)
        have RF5 := Lib.hid (RF4.out.below hb5)
        have BW5 := Lib.hid (BW4.out.trans (hb5.mono (by omega)))
        have RT5 := Lib.hid (Rd.own o5)
        obtain ⟨hc51, hc52, rg5⟩ := own_range o5
        have G5 := Lib.hid rg5
        have K5 := Lib.hid k5
        clear d4 e4
        have d4 := k5.cell
        have e4 := k5.frozen
        clear o5 hb5 k5 rg5 RL4 RS4 HR4 HS4 RF4 BW4 K4
        have z51 : w3.heap.size < w5.heap.size := by omega
        go_wp2_with fail
        refine (Take_any 9 (1 + V) A3 k c3 B3 k d3 0 0 false ss ss A4 (5 + 2 * k) c4 F1 w5 HR5.out (by omega) HS5.out (by omega) (by omega) (by omega) RF5.out hc41 (by omega) hc42).mono ?_
        intro e w6 hf
        rw [E3.out] at hf
        obtain ⟨A6, c6, B6, d6, rfl, hb6, r6, s6, g6, j6⟩ := hf.rd
        simp only [HLS.out, HLL.out] at r6 s6 ⊢
        have z6 := hb6.size
        have k6 := blk7 (K5.out.below hb6) (.int .i64 9) (.int .i64 (1 + V)) (.slice A6 k c6) (.slice B6 k d6) (.int .i64 S) (.int .i64 0) (.bool true)
        have n6 := grow7 w6 w3.heap.size (.int .i64 9) (.int .i64 (1 + V)) (.slice A6 k c6) (.slice B6 k d6) (.int .i64 S) (.int .i64 0) (.bool true)
        have RL6 := Lib.hid ((RL5.out.below hb6).grown n6 (fun a ha e => by have := RGL.out a ha; injection e; omega))
        have RS6 := Lib.hid ((RS5.out.below hb6).grown n6 (fun a ha e => by have := RGS.out a ha; injection e; omega))
        have RT6 := Lib.hid ((RT5.out.below hb6).grown n6 (fun a ha e => by have := G5.out a ha; injection e; omega))
        have HR6 := Lib.hid (r6.grown n6 (fun a ha e => by have := g6 a ha; injection e; omega))
        have HS6 := Lib.hid (s6.grown n6 (fun a ha e => by have := j6 a ha; injection e; omega))
        have BW6 := Lib.hid ((BW5.out.trans (hb6.mono (by omega))).trans (Grow.below n6 (by omega) (fun x hx => by injection hx; omega)))
        have zz6 := n6.size
        clear d4 e4
        have d4 := (K5.out.below hb6).cell
        have e4 := (K5.out.below hb6).frozen
        have K6 := Lib.hid k6
        have N6 := Lib.hid n6
        clear hf hb6 n6 k6 RL5 RS5 HR5 HS5 RF5 BW5 K5 RT5 r6 s6
        go_wp2_with fail
        generalize hW : World.setCell (World.setCell (World.setCell (World.setCell (World.setCell (World.setCell (World.setCell w6 _ _) _ _) _ _) _ _) _ _) _ _) _ _ = w7 at *
        clear hW d4 e4
        refine (equal_any B6 LA k k d6 lc ls ls _ HS6.out RL6.out (by unfold maxLen; omega)).mono ?_
        rintro e w8 ⟨rfl, q, rfl⟩
        rw [show decide (ls = ls) = true from by simp]
        have zw : (w7.drewN q).heap.size = w7.heap.size := rfl
        have K7 := Lib.hid (K6.out.drewN q)
        have RL7 := Lib.hid (RL6.out.drewN q)
        have RS7 := Lib.hid (RS6.out.drewN q)
        have RT7 := Lib.hid (RT6.out.drewN q)
        have HR7 := Lib.hid (HR6.out.drewN q)
        have HS7 := Lib.hid (HS6.out.drewN q)
        have BW7 := Lib.hid (below_drewN BW6.out q)
        clear K6 RL6 RS6 RT6 HR6 HS6 BW6 N6
        generalize hW : World.drewN w7 q = w8 at *
        clear hW
        have zk := K7.out.lt
        go_wp2_with (at_builtin; refine wpList_append_rd _ rfl (.const (.slice none 0 0)) (.tmp 104) 31 rfl w8.heap.size 5 j0 _ 1 1 Try.underlying31 hj0 hy0 hy1 hy2 rfl (by omega) _ 0 [] rfl (World.ownsRow_nil _ _ _ _) A5 (5 + 2 * k) c5 (byts F2) rfl RT7.out ?_ ?_ ?_ ?_ ?_)
        · intro u hu
          obtain ⟨x, _, rfl⟩ := List.mem_map.1 hu
          rfl
        · unfold maxLen; omega
        · omega
        · simp
        intro v9 w9 o9 g9' at9
        clear at9
        obtain ⟨A9, c9, rfl, hs91, hs92, _⟩ := own_shape o9
        try simp only [Nat.zero_add, List.nil_append] at o9 hs91
        have hb9 := grow_none (show World.grownBy _ w9 none from g9')
        obtain ⟨gb, rfl, hgb1, hgb2⟩ := own_head o9 (by omega)
        have z9 := hb9.size
        have K9 := Lib.hid (K7.out.below hb9)
        have RL9 := Lib.hid (RL7.out.below hb9)
        have RS9 := Lib.hid (RS7.out.below hb9)
        have HR9 := Lib.hid (HR7.out.below hb9)
        have HS9 := Lib.hid (HS7.out.below hb9)
        have BW9 := Lib.hid (BW7.out.trans (hb9.mono (by omega)))
        have OB := Lib.hid o9
        clear o9 g9' hb9 K7 RL7 RS7 RT7 HR7 HS7 BW7
        go_wp2_with fail
        refine (picked_any at_ _ _ ha1 ha2 (by omega) (by omega)).mono ?_
        rintro e w10 ⟨rfl, rfl⟩
        have hka := pick_lt (n := at_) (m := 8 * (5 + 2 * (k : Int))) (by omega)
        generalize hPP : pickN at_ (8 * (5 + 2 * (k : Int))) = PP at *
        obtain ⟨P, hP⟩ := Int.eq_ofNat_of_zero_le hka.1
        subst hP
        clear hPP
        go_wp2_with fail
        refine (picked_any bts 65535 _ hb1 hb2 (by omega) (by omega)).mono ?_
        rintro e w11 ⟨rfl, rfl⟩
        have hkb := pick_lt (n := bts) (m := 65535) (by omega)
        generalize hPP : pickN bts 65535 = PP at *
        obtain ⟨mb, hmb⟩ := Int.eq_ofNat_of_zero_le hkb.1
        subst hmb
        clear hPP
        go_wp2
        rw [show 1 + (mb : Int) = ((1 + mb : Nat) : Int) by omega]
        obtain ⟨M, hM⟩ : ∃ M, M = 1 + mb := ⟨_, rfl⟩
        have hM1 : 1 ≤ M := by omega
        have hM2 : M < 65536 := by omega
        rw [← hM]
        clear hM hkb
        have hP8 : P < 8 * (5 + 2 * k) := by omega
        clear hka
        go_loopw [25, 26] (fun tv i wr => ∃ j : Nat, j ≤ 16 ∧ i = .int .i64 j ∧ ∃ (acc : Nat) (cs : List UInt8) (tb : Bool), acc < 2 ^ j ∧ tv = .bool tb ∧ Hid (tb = decide (acc ≠ 0)) ∧ Hid (cs.length = 5 + 2 * k) ∧ Hid (numB cs = numB F2 ^^^ acc * 2 ^ P) ∧
          Hid (wr.ownsRow w7.heap.size 5 1 (.slice (some ⟨gb, 0, none⟩) (5 + 2 * k) c9) (5 + 2 * k) (byts cs)) ∧ Hid (w11.grownBy wr (some gb))) (fun _ i _ => 16 - (intOf i).toNat)
        case atStart => exact ⟨0, by omega, rfl, 0, F2, false, by omega, rfl, rfl, F2L, by simp [Hid], OB, Grow.refl _ _⟩
        case round =>
          obtain ⟨j, hj, rfl, acc, cs, tb, hacc, rfl, HTB, HCL, HNB, HOB, HGB⟩ := hrel
          by_cases hlt2 : j < 16 ∧ P + j < 8 * (5 + 2 * k)
          · obtain ⟨hl1, hl2⟩ := hlt2
            cases ht : (bits .and .i64 ((M : Int) / 2 ^ j) 1 == 1)
            · go_wp2
              go_roundw
              case rel => exact ⟨j + 1, by omega, by go_num, acc, cs, tb, by rw [Nat.pow_succ]; omega, rfl, HTB, HCL, HNB, HOB, HGB⟩
              case measure => simp [intOf]; omega
            · obtain ⟨p, hp⟩ : ∃ p, p = (P + j) / 8 := ⟨_, rfl⟩
              obtain ⟨s, hs⟩ : ∃ s, s = (P + j) % 8 := ⟨_, rfl⟩
              have hpl : p < 5 + 2 * k := by omega
              have hs8 : s < 8 := by omega
              have hi1 : ((P : Int) + (j : Int)) / 8 = (p : Int) := by omega
              have hi2 : ((P : Int) + (j : Int)) % 8 = (s : Int) := by omega
              have hc : wr.cell? ⟨gb, p, none⟩ = some (.int .u8 ((cs.getD p 0).toNat : Int)) := by
                have hcl := HCL.out
                rw [HOB.out.cellAt p (by omega)]
                simp [byts, List.getD_eq_getElem?_getD, List.getElem?_eq_getElem (show p < cs.length by omega)]
              generalize hx : cs.getD p 0 = x at hc
              have hfz := HOB.out.frozenAt p
              go_wp2
              have v1 : IntKind.i64.wrap ((P : Int) + (j : Int)) = (P : Int) + (j : Int) := by rw [show (P : Int) + (j : Int) = ((P + j : Nat) : Int) by omega]; exact wrap_i64_nat _ (by omega)
              have v2 : IntKind.i64.wrap (((P : Int) + (j : Int)).tdiv 8) = (p : Int) := by rw [Int.tdiv_eq_ediv_of_nonneg (by omega), hi1]; exact wrap_i64_nat _ (by omega)
              have v4 : ((P : Int) + (j : Int)).tmod 8 = (s : Int) := by rw [Int.tmod_eq_emod_of_nonneg (by omega), hi2]
              have v3 : IntKind.i64.wrap (((P : Int) + (j : Int)).tmod 8) = (s : Int) := by rw [Int.tmod_eq_emod_of_nonneg (by omega), hi2]; exact wrap_i64_nat _ (by omega)
              have hpi : (p : Int) < 5 + 2 * (k : Int) := by omega
              have HP := Lib.hid hp
              have HSS := Lib.hid hs
              have HX9 := Lib.hid hx
              clear hp hs hi1 hi2 hx
              go_region_law (fail)
              have hval : bits .xor .u8 (x.toNat : Int) (IntKind.u8.wrap (2 ^ s)) = ((x ^^^ UInt8.ofNat (2 ^ s)).toNat : Int) := by
                rw [u8_pow hs8, u8_xor _ _ x.toNat_lt (UInt8.toNat_lt _), UInt8.toNat_xor]
              rw [hval]
              obtain ⟨g1, g2⟩ := HOB.out.stored p (.int .u8 ((x ^^^ UInt8.ofNat (2 ^ s)).toNat : Int))
              have hset : (byts cs).set p (.int .u8 ((x ^^^ UInt8.ofNat (2 ^ s)).toNat : Int)) = byts (cs.set p (x ^^^ UInt8.ofNat (2 ^ s))) := by simp [byts, List.map_set]
              rw [hset] at g1
              have G1 := Lib.hid g1
              have G2 := Lib.hid g2
              clear hval g1 g2 hset v1 v2 v3 v4
              generalize World.setCell wr _ _ = wt at *
              go_wp2
              go_roundw
              case rel =>
                obtain ⟨q1, q2⟩ := turn_acc hacc
                exact ⟨j + 1, by omega, by go_num, acc ^^^ 2 ^ j, cs.set p (x ^^^ UInt8.ofNat (2 ^ s)), true, q1, rfl, by simp [Hid, q2], by simpa [Hid] using HCL.out, turn_num HX9.out HP.out HSS.out (by rw [HCL.out]; omega) HNB.out, G1.out, Grow.trans (Grow.trans HGB.out G2.out (fun _ _ => .inl rfl)) (grown_drewN wt 1) (fun x hx => by cases hx)⟩
              case measure => simp [intOf]; omega
          · have hjj : 16 ≤ j ∨ (j < 16 ∧ 8 * (5 + 2 * k) ≤ P + j) := by omega
            obtain ⟨we, hwe⟩ : ∃ we : World, we = wr := ⟨_, rfl⟩
            subst hwe
            have gk : w3.heap.size ≠ gb := by omega
            have K10 := Lib.hid (K9.out.grown HGB.out (fun e => by injection e; omega))
            have RL10 := Lib.hid (RL9.out.grown HGB.out (fun a ha e => by have := RGL.out a ha; injection e; omega))
            have RS10 := Lib.hid (RS9.out.grown HGB.out (fun a ha e => by have := RGS.out a ha; injection e; omega))
            have HR10 := Lib.hid (HR9.out.grown HGB.out (fun a ha e => by have := g6 a ha; injection e; omega))
            have HS10 := Lib.hid (HS9.out.grown HGB.out (fun a ha e => by have := j6 a ha; injection e; omega))
            have RB10 := Lib.hid (Rd.own HOB.out)
            have zz10 := HGB.out.size
            have BW10 := Lib.hid (BW9.out.trans (Grow.below HGB.out (by omega) (fun x hx => by injection hx; omega)))
            have d4 := K10.out.cell
            have e4 := K10.out.frozen
            have zl10 := K10.out.lt
            clear K9 RL9 RS9 HR9 HS9 BW9 HOB HGB OB
            clear hlt2
            cases tb
            · clear hj
              rcases hjj with hj1 | ⟨hj1, hj2⟩
              · have KL := K10
                have HRL := HR10
                have HSL := HS10
                have gAL : Hid (∀ a, A6 = some a → a.block ≠ w3.heap.size) := fun a ha => by have := g6 a ha; omega
                have gBL : Hid (∀ a, B6 = some a → a.block ≠ w3.heap.size) := fun a ha => by have := j6 a ha; omega
                have RLL := RL10
                have RSL := RS10
                have BWL := BW10
                have zLL : w3.heap.size < we.heap.size := by omega
                clear K10 HR10 HS10 RL10 RS10 BW10 d4 e4
                go_wp2
                go_loopw [17, 29] (fun ev i wr => ∃ a : Nat, (a : Int) ≤ 1 + V ∧ i = .int .i64 a ∧ ev = .int .i64 0 ∧ ∃ Ax cx Bx dx ag fr ws, Hid ((a : Int) < 1 + V ∧ ag = (a : Int) ∧ fr = true ∧ ws = ls ∨ (a : Int) = 1 + V ∧ ag = 0 ∧ fr = false ∧ ws = ss) ∧
                  Hid (Blk wr w3.heap.size 24 (linkC 9 (1 + V) (.slice Ax k cx) (.slice Bx k dx) S ag fr)) ∧ Hid (Rd wr 1 Ax k (ints ss)) ∧ Hid (Rd wr 1 Bx k (ints ws)) ∧ Hid (∀ a, Ax = some a → a.block ≠ w3.heap.size) ∧ Hid (∀ a, Bx = some a → a.block ≠ w3.heap.size) ∧
                  Hid (Rd wr 1 LA k (ints ls)) ∧ Hid (Rd wr 1 SA k (ints ss)) ∧ Hid (Below w.heap.size w wr) ∧ w3.heap.size < wr.heap.size) (fun _ i _ => (1 + V).toNat - (intOf i).toNat)
                case atStart => exact ⟨0, by omega, rfl, rfl, A6, c6, B6, d6, 0, true, ls, .inl ⟨by omega, rfl, rfl, rfl⟩, KL, HRL, HSL, gAL, gBL, RLL, RSL, BWL, zLL⟩
                case round =>
                  clear KL HRL HSL gAL gBL RLL RSL BWL zLL
                  obtain ⟨a, ha, rfl, rfl, Ax, cx, Bx, dx, ag, fr, ws, hcs, KX, HRX, HSX, gAX, gBX, RLX, RSX, BWX, zX⟩ := hrel
                  have x4 := KX.out.cell
                  have y4 := KX.out.frozen
                  by_cases hlt3 : (a : Int) < 1 + V
                  · rcases hcs.out with ⟨_, rfl, rfl, rfl⟩ | ⟨hbad, _⟩
                    rotate_left
                    · omega
                    clear hcs
                    go_wp2_with fail
                    refine (equal_any Bx LA k k dx lc ws ws _ HSX.out RLX.out (by unfold maxLen; omega)).mono ?_
                    rintro e wa ⟨rfl, q2, rfl⟩
                    rw [show decide (ws = ws) = true from by simp]
                    have HT := Lib.hid (Tick_any 9 (1 + V) Ax k cx Bx k dx S (a : Int) true ss ws (wr.drewN q2) (HRX.out.drewN q2) (by omega) (HSX.out.drewN q2) (by omega) (by omega) (by omega))
                    go_wp2_with fail
                    refine HT.out.mono ?_
                    intro e wb hf
                    rw [E4.out _ (by omega) hlt3] at hf
                    have hbase : (wr.drewN q2).heap.size = wr.heap.size := rfl
                    have BD := Lib.hid (below_drewN (Below.refl wr.heap.size wr) q2)
                    by_cases hend : (a : Int) + 1 = 1 + V
                    · rw [if_pos hend] at hf
                      obtain ⟨Ay, cy, By, dy, rfl, hb, ry, sy, gy, jy⟩ := hf.rd
                      simp only [HLS.out] at ry sy ⊢
                      have zy := hb.size
                      have bb := BD.out.trans hb
                      have k7 := blk7 (KX.out.below bb) (.int .i64 9) (.int .i64 (1 + V)) (.slice Ay k cy) (.slice By k dy) (.int .i64 S) (.int .i64 0) (.bool false)
                      have n7 := grow7 wb w3.heap.size (.int .i64 9) (.int .i64 (1 + V)) (.slice Ay k cy) (.slice By k dy) (.int .i64 S) (.int .i64 0) (.bool false)
                      have ya : ∀ a, Ay = some a → a.block ≠ w3.heap.size := fun a ha => by have := (gy a ha).1; omega
                      have yb : ∀ a, By = some a → a.block ≠ w3.heap.size := fun a ha => by have := (jy a ha).1; omega
                      have RLY := Lib.hid ((RLX.out.below bb).grown n7 (fun a ha e => by have := RGL.out a ha; injection e; omega))
                      have RSY := Lib.hid ((RSX.out.below bb).grown n7 (fun a ha e => by have := RGS.out a ha; injection e; omega))
                      have HRY := Lib.hid (ry.grown n7 (fun a ha e => ya a ha (by injection e)))
                      have HSY := Lib.hid (sy.grown n7 (fun a ha e => yb a ha (by injection e)))
                      have BWY := Lib.hid ((BWX.out.trans (bb.mono (by omega))).trans (Grow.below n7 (by omega) (fun x hx => by injection hx; omega)))
                      have zzy := n7.size
                      have x5 := (KX.out.below bb).cell
                      have y5 := (KX.out.below bb).frozen
                      have KY := Lib.hid k7
                      have YA := Lib.hid ya
                      have YB := Lib.hid yb
                      clear x4 y4 hf hb bb k7 n7 ry sy ya yb HT
                      go_wp2
                      go_roundw
                      case rel => exact ⟨a + 1, by omega, by go_num, rfl, Ay, cy, By, dy, 0, false, ss, .inr ⟨by omega, rfl, rfl, rfl⟩, KY, HRY, HSY, YA, YB, RLY, RSY, BWY, by omega⟩
                      case measure => simp [intOf]; omega
                    · rw [if_neg hend] at hf
                      obtain ⟨Ay, cy, By, dy, rfl, hb, ry, sy, gy, jy⟩ := hf.rd
                      simp only [HLS.out, HLL.out] at ry sy ⊢
                      have zy := hb.size
                      have bb := BD.out.trans hb
                      have k7 := blk7 (KX.out.below bb) (.int .i64 9) (.int .i64 (1 + V)) (.slice Ay k cy) (.slice By k dy) (.int .i64 S) (.int .i64 ((a : Int) + 1)) (.bool true)
                      have n7 := grow7 wb w3.heap.size (.int .i64 9) (.int .i64 (1 + V)) (.slice Ay k cy) (.slice By k dy) (.int .i64 S) (.int .i64 ((a : Int) + 1)) (.bool true)
                      have ya : ∀ a, Ay = some a → a.block ≠ w3.heap.size := fun a ha => by have := (gy a ha).1; omega
                      have yb : ∀ a, By = some a → a.block ≠ w3.heap.size := fun a ha => by have := (jy a ha).1; omega
                      have RLY := Lib.hid ((RLX.out.below bb).grown n7 (fun a ha e => by have := RGL.out a ha; injection e; omega))
                      have RSY := Lib.hid ((RSX.out.below bb).grown n7 (fun a ha e => by have := RGS.out a ha; injection e; omega))
                      have HRY := Lib.hid (ry.grown n7 (fun a ha e => ya a ha (by injection e)))
                      have HSY := Lib.hid (sy.grown n7 (fun a ha e => yb a ha (by injection e)))
                      have BWY := Lib.hid ((BWX.out.trans (bb.mono (by omega))).trans (Grow.below n7 (by omega) (fun x hx => by injection hx; omega)))
                      have zzy := n7.size
                      have x5 := (KX.out.below bb).cell
                      have y5 := (KX.out.below bb).frozen
                      have KY := Lib.hid k7
                      have YA := Lib.hid ya
                      have YB := Lib.hid yb
                      clear x4 y4 hf hb bb k7 n7 ry sy ya yb HT
                      go_wp2
                      go_roundw
                      case rel => exact ⟨a + 1, by omega, by go_num, rfl, Ay, cy, By, dy, (a : Int) + 1, true, ws, .inl ⟨by omega, by omega, rfl, rfl⟩, KY, HRY, HSY, YA, YB, RLY, RSY, BWY, by omega⟩
                      case measure => simp [intOf]; omega
                  · rcases hcs.out with ⟨hbad, _⟩ | ⟨_, rfl, rfl, rfl⟩
                    · omega
                    clear hcs
                    go_wp2_with fail
                    refine (equal_any Bx SA k k dx sc ws ws _ HSX.out RSX.out (by unfold maxLen; omega)).mono ?_
                    rintro e wa ⟨rfl, q2, rfl⟩
                    rw [show decide (ws = ws) = true from by simp]
                    go_wp2
                    go_ret
                    exact ⟨rfl, below_drewN BWX.out _⟩
              · have KL := K10
                have HRL := HR10
                have HSL := HS10
                have gAL : Hid (∀ a, A6 = some a → a.block ≠ w3.heap.size) := fun a ha => by have := g6 a ha; omega
                have gBL : Hid (∀ a, B6 = some a → a.block ≠ w3.heap.size) := fun a ha => by have := j6 a ha; omega
                have RLL := RL10
                have RSL := RS10
                have BWL := BW10
                have zLL : w3.heap.size < we.heap.size := by omega
                clear K10 HR10 HS10 RL10 RS10 BW10 d4 e4
                go_wp2
                go_loopw [17, 29] (fun ev i wr => ∃ a : Nat, (a : Int) ≤ 1 + V ∧ i = .int .i64 a ∧ ev = .int .i64 0 ∧ ∃ Ax cx Bx dx ag fr ws, Hid ((a : Int) < 1 + V ∧ ag = (a : Int) ∧ fr = true ∧ ws = ls ∨ (a : Int) = 1 + V ∧ ag = 0 ∧ fr = false ∧ ws = ss) ∧
                  Hid (Blk wr w3.heap.size 24 (linkC 9 (1 + V) (.slice Ax k cx) (.slice Bx k dx) S ag fr)) ∧ Hid (Rd wr 1 Ax k (ints ss)) ∧ Hid (Rd wr 1 Bx k (ints ws)) ∧ Hid (∀ a, Ax = some a → a.block ≠ w3.heap.size) ∧ Hid (∀ a, Bx = some a → a.block ≠ w3.heap.size) ∧
                  Hid (Rd wr 1 LA k (ints ls)) ∧ Hid (Rd wr 1 SA k (ints ss)) ∧ Hid (Below w.heap.size w wr) ∧ w3.heap.size < wr.heap.size) (fun _ i _ => (1 + V).toNat - (intOf i).toNat)
                case atStart => exact ⟨0, by omega, rfl, rfl, A6, c6, B6, d6, 0, true, ls, .inl ⟨by omega, rfl, rfl, rfl⟩, KL, HRL, HSL, gAL, gBL, RLL, RSL, BWL, zLL⟩
                case round =>
                  clear KL HRL HSL gAL gBL RLL RSL BWL zLL
                  obtain ⟨a, ha, rfl, rfl, Ax, cx, Bx, dx, ag, fr, ws, hcs, KX, HRX, HSX, gAX, gBX, RLX, RSX, BWX, zX⟩ := hrel
                  have x4 := KX.out.cell
                  have y4 := KX.out.frozen
                  by_cases hlt3 : (a : Int) < 1 + V
                  · rcases hcs.out with ⟨_, rfl, rfl, rfl⟩ | ⟨hbad, _⟩
                    rotate_left
                    · omega
                    clear hcs
                    go_wp2_with fail
                    refine (equal_any Bx LA k k dx lc ws ws _ HSX.out RLX.out (by unfold maxLen; omega)).mono ?_
                    rintro e wa ⟨rfl, q2, rfl⟩
                    rw [show decide (ws = ws) = true from by simp]
                    have HT := Lib.hid (Tick_any 9 (1 + V) Ax k cx Bx k dx S (a : Int) true ss ws (wr.drewN q2) (HRX.out.drewN q2) (by omega) (HSX.out.drewN q2) (by omega) (by omega) (by omega))
                    go_wp2_with fail
                    refine HT.out.mono ?_
                    intro e wb hf
                    rw [E4.out _ (by omega) hlt3] at hf
                    have hbase : (wr.drewN q2).heap.size = wr.heap.size := rfl
                    have BD := Lib.hid (below_drewN (Below.refl wr.heap.size wr) q2)
                    by_cases hend : (a : Int) + 1 = 1 + V
                    · rw [if_pos hend] at hf
                      obtain ⟨Ay, cy, By, dy, rfl, hb, ry, sy, gy, jy⟩ := hf.rd
                      simp only [HLS.out] at ry sy ⊢
                      have zy := hb.size
                      have bb := BD.out.trans hb
                      have k7 := blk7 (KX.out.below bb) (.int .i64 9) (.int .i64 (1 + V)) (.slice Ay k cy) (.slice By k dy) (.int .i64 S) (.int .i64 0) (.bool false)
                      have n7 := grow7 wb w3.heap.size (.int .i64 9) (.int .i64 (1 + V)) (.slice Ay k cy) (.slice By k dy) (.int .i64 S) (.int .i64 0) (.bool false)
                      have ya : ∀ a, Ay = some a → a.block ≠ w3.heap.size := fun a ha => by have := (gy a ha).1; omega
                      have yb : ∀ a, By = some a → a.block ≠ w3.heap.size := fun a ha => by have := (jy a ha).1; omega
                      have RLY := Lib.hid ((RLX.out.below bb).grown n7 (fun a ha e => by have := RGL.out a ha; injection e; omega))
                      have RSY := Lib.hid ((RSX.out.below bb).grown n7 (fun a ha e => by have := RGS.out a ha; injection e; omega))
                      have HRY := Lib.hid (ry.grown n7 (fun a ha e => ya a ha (by injection e)))
                      have HSY := Lib.hid (sy.grown n7 (fun a ha e => yb a ha (by injection e)))
                      have BWY := Lib.hid ((BWX.out.trans (bb.mono (by omega))).trans (Grow.below n7 (by omega) (fun x hx => by injection hx; omega)))
                      have zzy := n7.size
                      have x5 := (KX.out.below bb).cell
                      have y5 := (KX.out.below bb).frozen
                      have KY := Lib.hid k7
                      have YA := Lib.hid ya
                      have YB := Lib.hid yb
                      clear x4 y4 hf hb bb k7 n7 ry sy ya yb HT
                      go_wp2
                      go_roundw
                      case rel => exact ⟨a + 1, by omega, by go_num, rfl, Ay, cy, By, dy, 0, false, ss, .inr ⟨by omega, rfl, rfl, rfl⟩, KY, HRY, HSY, YA, YB, RLY, RSY, BWY, by omega⟩
                      case measure => simp [intOf]; omega
                    · rw [if_neg hend] at hf
                      obtain ⟨Ay, cy, By, dy, rfl, hb, ry, sy, gy, jy⟩ := hf.rd
                      simp only [HLS.out, HLL.out] at ry sy ⊢
                      have zy := hb.size
                      have bb := BD.out.trans hb
                      have k7 := blk7 (KX.out.below bb) (.int .i64 9) (.int .i64 (1 + V)) (.slice Ay k cy) (.slice By k dy) (.int .i64 S) (.int .i64 ((a : Int) + 1)) (.bool true)
                      have n7 := grow7 wb w3.heap.size (.int .i64 9) (.int .i64 (1 + V)) (.slice Ay k cy) (.slice By k dy) (.int .i64 S) (.int .i64 ((a : Int) + 1)) (.bool true)
                      have ya : ∀ a, Ay = some a → a.block ≠ w3.heap.size := fun a ha => by have := (gy a ha).1; omega
                      have yb : ∀ a, By = some a → a.block ≠ w3.heap.size := fun a ha => by have := (jy a ha).1; omega
                      have RLY := Lib.hid ((RLX.out.below bb).grown n7 (fun a ha e => by have := RGL.out a ha; injection e; omega))
                      have RSY := Lib.hid ((RSX.out.below bb).grown n7 (fun a ha e => by have := RGS.out a ha; injection e; omega))
                      have HRY := Lib.hid (ry.grown n7 (fun a ha e => ya a ha (by injection e)))
                      have HSY := Lib.hid (sy.grown n7 (fun a ha e => yb a ha (by injection e)))
                      have BWY := Lib.hid ((BWX.out.trans (bb.mono (by omega))).trans (Grow.below n7 (by omega) (fun x hx => by injection hx; omega)))
                      have zzy := n7.size
                      have x5 := (KX.out.below bb).cell
                      have y5 := (KX.out.below bb).frozen
                      have KY := Lib.hid k7
                      have YA := Lib.hid ya
                      have YB := Lib.hid yb
                      clear x4 y4 hf hb bb k7 n7 ry sy ya yb HT
                      go_wp2
                      go_roundw
                      case rel => exact ⟨a + 1, by omega, by go_num, rfl, Ay, cy, By, dy, (a : Int) + 1, true, ws, .inl ⟨by omega, by omega, rfl, rfl⟩, KY, HRY, HSY, YA, YB, RLY, RSY, BWY, by omega⟩
                      case measure => simp [intOf]; omega
                  · rcases hcs.out with ⟨hbad, _⟩ | ⟨_, rfl, rfl, rfl⟩
                    · omega
                    clear hcs
                    go_wp2_with fail
                    refine (equal_any Bx SA k k dx sc ws ws _ HSX.out RSX.out (by unfold maxLen; omega)).mono ?_
                    rintro e wa ⟨rfl, q2, rfl⟩
                    rw [show decide (ws = ws) = true from by simp]
                    go_wp2
                    go_ret
                    exact ⟨rfl, below_drewN BWX.out _⟩
            · have hne : acc ≠ 0 := by have h := HTB.out; simpa using h.symm
              have hp16 : 2 ^ j ≤ 2 ^ 16 := Nat.pow_le_pow_right (by omega) hj
              have hre := spoilt (cs := cs) (bs := F2) (by rw [HCL.out, F2L.out]) (m := acc) (k := P) (by omega) hne (by rw [F2L.out]; omega) HNB.out O2.out
              have hrf := refused (o := openF cs) C4.out hre
              generalize (openF cs).2 = er at hrf hre
              have ht : (er == 0) = false := by simpa using hre
              have HRF := Lib.hid hrf
              clear hrf hre hp16
              clear hj
              rcases hjj with hj1 | ⟨hj1, hj2⟩
              · go_wp2_with fail
                refine (Take_any 9 (1 + V) A6 k c6 B6 k d6 S 0 true ss ls (some ⟨gb, 0, none⟩) (5 + 2 * k) c9 cs we HR10.out (by omega) HS10.out (by omega) (by omega) (by omega) RB10.out hs91 (by omega) hs92).mono ?_
                intro e wt hf
                rw [HRF.out] at hf
                obtain ⟨A12, c12, B12, d12, rfl, hb12, r12, s12, g12, j12⟩ := hf.rd
                simp only [HLS.out, HLL.out] at r12 s12 ⊢
                have z12 := hb12.size
                have KT := Lib.hid (K10.out.below hb12)
                have RLT := Lib.hid (RL10.out.below hb12)
                have RST := Lib.hid (RS10.out.below hb12)
                have HRT := Lib.hid r12
                have HST := Lib.hid s12
                have BWT := Lib.hid (BW10.out.trans (hb12.mono (by omega)))
                clear d4 e4 hf hb12 r12 s12 K10 RL10 RS10 HR10 HS10 BW10 RB10
                have d4 := KT.out.cell
                have e4 := KT.out.frozen
                have zt1 : w3.heap.size < wt.heap.size := by omega
                go_wp2_with fail
                refine (equal_any B12 LA k k d12 lc ls ls _ (HST.out.alloc _) (RLT.out.alloc _) (by unfold maxLen; omega)).mono ?_
                rintro e wu ⟨rfl, q2, rfl⟩
                rw [show decide (ls = ls) = true from by simp]
                have KZ := Lib.hid ((KT.out.alloc (.cells (linkC 9 (1 + V) (.slice A12 k c12) (.slice B12 k d12) S 0 true) 24)).drewN q2)
                have KN := Lib.hid ((Blk.new wt 24 (linkC 9 (1 + V) (.slice A12 k c12) (.slice B12 k d12) S 0 true)).drewN q2)
                have RLZ := Lib.hid ((RLT.out.alloc (.cells (linkC 9 (1 + V) (.slice A12 k c12) (.slice B12 k d12) S 0 true) 24)).drewN q2)
                have RSZ := Lib.hid ((RST.out.alloc (.cells (linkC 9 (1 + V) (.slice A12 k c12) (.slice B12 k d12) S 0 true) 24)).drewN q2)
                have HRZ := Lib.hid ((HRT.out.alloc (.cells (linkC 9 (1 + V) (.slice A12 k c12) (.slice B12 k d12) S 0 true) 24)).drewN q2)
                have HSZ := Lib.hid ((HST.out.alloc (.cells (linkC 9 (1 + V) (.slice A12 k c12) (.slice B12 k d12) S 0 true) 24)).drewN q2)
                have BWZ := Lib.hid (below_drewN (BWT.out.alloc (by omega) (.cells (linkC 9 (1 + V) (.slice A12 k c12) (.slice B12 k d12) S 0 true) 24)) q2)
                have zz0 : ((wt.alloc (.cells (linkC 9 (1 + V) (.slice A12 k c12) (.slice B12 k d12) S 0 true) 24)).drewN q2).heap.size = wt.heap.size + 1 := by rw [size_drewN]; simp
                clear KT RLT RST HRT HST BWT d4 e4
                generalize World.drewN (World.alloc wt _) q2 = wz at *
                have d4 := KZ.out.cell
                have e4 := KZ.out.frozen
                have d5 := KN.out.cell
                have e5 := KN.out.frozen
                have n7 := grow7 wz w3.heap.size (.int .i64 9) (.int .i64 (1 + V)) (.slice A12 k c12) (.slice B12 k d12) (.int .i64 S) (.int .i64 0) (.bool true)
                have KL := Lib.hid (blk7 KZ.out (.int .i64 9) (.int .i64 (1 + V)) (.slice A12 k c12) (.slice B12 k d12) (.int .i64 S) (.int .i64 0) (.bool true))
                have ya : ∀ a, A12 = some a → a.block ≠ w3.heap.size := fun a ha => by have := (g12 a ha).1; omega
                have yb : ∀ a, B12 = some a → a.block ≠ w3.heap.size := fun a ha => by have := (j12 a ha).1; omega
                have RLL := Lib.hid (RLZ.out.grown n7 (fun a ha e => by have := RGL.out a ha; injection e; omega))
                have RSL := Lib.hid (RSZ.out.grown n7 (fun a ha e => by have := RGS.out a ha; injection e; omega))
                have HRL := Lib.hid (HRZ.out.grown n7 (fun a ha e => ya a ha (by injection e)))
                have HSL := Lib.hid (HSZ.out.grown n7 (fun a ha e => yb a ha (by injection e)))
                have BWL := Lib.hid (BWZ.out.trans (Grow.below n7 (by omega) (fun x hx => by injection hx; omega)))
                have gAL := Lib.hid ya
                have gBL := Lib.hid yb
                have zzy := n7.size
                have zLL : w3.heap.size < (((((((wz.setCell ⟨w3.heap.size, 0, none⟩ (.int .i64 9)).setCell ⟨w3.heap.size, 1, none⟩ (.int .i64 (1 + V))).setCell ⟨w3.heap.size, 2, none⟩ (.slice A12 k c12)).setCell ⟨w3.heap.size, 3, none⟩ (.slice B12 k d12)).setCell ⟨w3.heap.size, 4, none⟩ (.int .i64 S)).setCell ⟨w3.heap.size, 5, none⟩ (.int .i64 0)).setCell ⟨w3.heap.size, 6, none⟩ (.bool true)).heap.size := by omega
                clear KZ KN RLZ RSZ HRZ HSZ BWZ n7 ya yb
                go_wp2
                go_loopw [17, 29] (fun ev i wr => ∃ a : Nat, (a : Int) ≤ 1 + V ∧ i = .int .i64 a ∧ ev = .int .i64 0 ∧ ∃ Ax cx Bx dx ag fr ws, Hid ((a : Int) < 1 + V ∧ ag = (a : Int) ∧ fr = true ∧ ws = ls ∨ (a : Int) = 1 + V ∧ ag = 0 ∧ fr = false ∧ ws = ss) ∧
                  Hid (Blk wr w3.heap.size 24 (linkC 9 (1 + V) (.slice Ax k cx) (.slice Bx k dx) S ag fr)) ∧ Hid (Rd wr 1 Ax k (ints ss)) ∧ Hid (Rd wr 1 Bx k (ints ws)) ∧ Hid (∀ a, Ax = some a → a.block ≠ w3.heap.size) ∧ Hid (∀ a, Bx = some a → a.block ≠ w3.heap.size) ∧
                  Hid (Rd wr 1 LA k (ints ls)) ∧ Hid (Rd wr 1 SA k (ints ss)) ∧ Hid (Below w.heap.size w wr) ∧ w3.heap.size < wr.heap.size) (fun _ i _ => (1 + V).toNat - (intOf i).toNat)
                case atStart => exact ⟨0, by omega, rfl, rfl, A12, c12, B12, d12, 0, true, ls, .inl ⟨by omega, rfl, rfl, rfl⟩, KL, HRL, HSL, gAL, gBL, RLL, RSL, BWL, zLL⟩
                case round =>
                  clear KL HRL HSL gAL gBL RLL RSL BWL zLL
                  obtain ⟨a, ha, rfl, rfl, Ax, cx, Bx, dx, ag, fr, ws, hcs, KX, HRX, HSX, gAX, gBX, RLX, RSX, BWX, zX⟩ := hrel
                  have x4 := KX.out.cell
                  have y4 := KX.out.frozen
                  by_cases hlt3 : (a : Int) < 1 + V
                  · rcases hcs.out with ⟨_, rfl, rfl, rfl⟩ | ⟨hbad, _⟩
                    rotate_left
                    · omega
                    clear hcs
                    go_wp2_with fail
                    refine (equal_any Bx LA k k dx lc ws ws _ HSX.out RLX.out (by unfold maxLen; omega)).mono ?_
                    rintro e wa ⟨rfl, q2, rfl⟩
                    rw [show decide (ws = ws) = true from by simp]
                    have HT := Lib.hid (Tick_any 9 (1 + V) Ax k cx Bx k dx S (a : Int) true ss ws (wr.drewN q2) (HRX.out.drewN q2) (by omega) (HSX.out.drewN q2) (by omega) (by omega) (by omega))
                    go_wp2_with fail
                    refine HT.out.mono ?_
                    intro e wb hf
                    rw [E4.out _ (by omega) hlt3] at hf
                    have hbase : (wr.drewN q2).heap.size = wr.heap.size := rfl
                    have BD := Lib.hid (below_drewN (Below.refl wr.heap.size wr) q2)
                    by_cases hend : (a : Int) + 1 = 1 + V
                    · rw [if_pos hend] at hf
                      obtain ⟨Ay, cy, By, dy, rfl, hb, ry, sy, gy, jy⟩ := hf.rd
                      simp only [HLS.out] at ry sy ⊢
                      have zy := hb.size
                      have bb := BD.out.trans hb
                      have k7 := blk7 (KX.out.below bb) (.int .i64 9) (.int .i64 (1 + V)) (.slice Ay k cy) (.slice By k dy) (.int .i64 S) (.int .i64 0) (.bool false)
                      have n7 := grow7 wb w3.heap.size (.int .i64 9) (.int .i64 (1 + V)) (.slice Ay k cy) (.slice By k dy) (.int .i64 S) (.int .i64 0) (.bool false)
                      have ya : ∀ a, Ay = some a → a.block ≠ w3.heap.size := fun a ha => by have := (gy a ha).1; omega
                      have yb : ∀ a, By = some a → a.block ≠ w3.heap.size := fun a ha => by have := (jy a ha).1; omega
                      have RLY := Lib.hid ((RLX.out.below bb).grown n7 (fun a ha e => by have := RGL.out a ha; injection e; omega))
                      have RSY := Lib.hid ((RSX.out.below bb).grown n7 (fun a ha e => by have := RGS.out a ha; injection e; omega))
                      have HRY := Lib.hid (ry.grown n7 (fun a ha e => ya a ha (by injection e)))
                      have HSY := Lib.hid (sy.grown n7 (fun a ha e => yb a ha (by injection e)))
                      have BWY := Lib.hid ((BWX.out.trans (bb.mono (by omega))).trans (Grow.below n7 (by omega) (fun x hx => by injection hx; omega)))
                      have zzy := n7.size
                      have x5 := (KX.out.below bb).cell
                      have y5 := (KX.out.below bb).frozen
                      have KY := Lib.hid k7
                      have YA := Lib.hid ya
                      have YB := Lib.hid yb
                      clear x4 y4 hf hb bb k7 n7 ry sy ya yb HT
                      go_wp2
                      go_roundw
                      case rel => exact ⟨a + 1, by omega, by go_num, rfl, Ay, cy, By, dy, 0, false, ss, .inr ⟨by omega, rfl, rfl, rfl⟩, KY, HRY, HSY, YA, YB, RLY, RSY, BWY, by omega⟩
                      case measure => simp [intOf]; omega
                    · rw [if_neg hend] at hf
                      obtain ⟨Ay, cy, By, dy, rfl, hb, ry, sy, gy, jy⟩ := hf.rd
                      simp only [HLS.out, HLL.out] at ry sy ⊢
                      have zy := hb.size
                      have bb := BD.out.trans hb
                      have k7 := blk7 (KX.out.below bb) (.int .i64 9) (.int .i64 (1 + V)) (.slice Ay k cy) (.slice By k dy) (.int .i64 S) (.int .i64 ((a : Int) + 1)) (.bool true)
                      have n7 := grow7 wb w3.heap.size (.int .i64 9) (.int .i64 (1 + V)) (.slice Ay k cy) (.slice By k dy) (.int .i64 S) (.int .i64 ((a : Int) + 1)) (.bool true)
                      have ya : ∀ a, Ay = some a → a.block ≠ w3.heap.size := fun a ha => by have := (gy a ha).1; omega
                      have yb : ∀ a, By = some a → a.block ≠ w3.heap.size := fun a ha => by have := (jy a ha).1; omega
                      have RLY := Lib.hid ((RLX.out.below bb).grown n7 (fun a ha e => by have := RGL.out a ha; injection e; omega))
                      have RSY := Lib.hid ((RSX.out.below bb).grown n7 (fun a ha e => by have := RGS.out a ha; injection e; omega))
                      have HRY := Lib.hid (ry.grown n7 (fun a ha e => ya a ha (by injection e)))
                      have HSY := Lib.hid (sy.grown n7 (fun a ha e => yb a ha (by injection e)))
                      have BWY := Lib.hid ((BWX.out.trans (bb.mono (by omega))).trans (Grow.below n7 (by omega) (fun x hx => by injection hx; omega)))
                      have zzy := n7.size
                      have x5 := (KX.out.below bb).cell
                      have y5 := (KX.out.below bb).frozen
                      have KY := Lib.hid k7
                      have YA := Lib.hid ya
                      have YB := Lib.hid yb
                      clear x4 y4 hf hb bb k7 n7 ry sy ya yb HT
                      go_wp2
                      go_roundw
                      case rel => exact ⟨a + 1, by omega, by go_num, rfl, Ay, cy, By, dy, (a : Int) + 1, true, ws, .inl ⟨by omega, by omega, rfl, rfl⟩, KY, HRY, HSY, YA, YB, RLY, RSY, BWY, by omega⟩
                      case measure => simp [intOf]; omega
                  · rcases hcs.out with ⟨hbad, _⟩ | ⟨_, rfl, rfl, rfl⟩
                    · omega
                    clear hcs
                    go_wp2_with fail
                    refine (equal_any Bx SA k k dx sc ws ws _ HSX.out RSX.out (by unfold maxLen; omega)).mono ?_
                    rintro e wa ⟨rfl, q2, rfl⟩
                    rw [show decide (ws = ws) = true from by simp]
                    go_wp2
                    go_ret
                    exact ⟨rfl, below_drewN BWX.out _⟩
              · go_wp2_with fail
                refine (Take_any 9 (1 + V) A6 k c6 B6 k d6 S 0 true ss ls (some ⟨gb, 0, none⟩) (5 + 2 * k) c9 cs we HR10.out (by omega) HS10.out (by omega) (by omega) (by omega) RB10.out hs91 (by omega) hs92).mono ?_
                intro e wt hf
                rw [HRF.out] at hf
                obtain ⟨A12, c12, B12, d12, rfl, hb12, r12, s12, g12, j12⟩ := hf.rd
                simp only [HLS.out, HLL.out] at r12 s12 ⊢
                have z12 := hb12.size
                have KT := Lib.hid (K10.out.below hb12)
                have RLT := Lib.hid (RL10.out.below hb12)
                have RST := Lib.hid (RS10.out.below hb12)
                have HRT := Lib.hid r12
                have HST := Lib.hid s12
                have BWT := Lib.hid (BW10.out.trans (hb12.mono (by omega)))
                clear d4 e4 hf hb12 r12 s12 K10 RL10 RS10 HR10 HS10 BW10 RB10
                have d4 := KT.out.cell
                have e4 := KT.out.frozen
                have zt1 : w3.heap.size < wt.heap.size := by omega
                go_wp2_with fail
                refine (equal_any B12 LA k k d12 lc ls ls _ (HST.out.alloc _) (RLT.out.alloc _) (by unfold maxLen; omega)).mono ?_
                rintro e wu ⟨rfl, q2, rfl⟩
                rw [show decide (ls = ls) = true from by simp]
                have KZ := Lib.hid ((KT.out.alloc (.cells (linkC 9 (1 + V) (.slice A12 k c12) (.slice B12 k d12) S 0 true) 24)).drewN q2)
                have KN := Lib.hid ((Blk.new wt 24 (linkC 9 (1 + V) (.slice A12 k c12) (.slice B12 k d12) S 0 true)).drewN q2)
                have RLZ := Lib.hid ((RLT.out.alloc (.cells (linkC 9 (1 + V) (.slice A12 k c12) (.slice B12 k d12) S 0 true) 24)).drewN q2)
                have RSZ := Lib.hid ((RST.out.alloc (.cells (linkC 9 (1 + V) (.slice A12 k c12) (.slice B12 k d12) S 0 true) 24)).drewN q2)
                have HRZ := Lib.hid ((HRT.out.alloc (.cells (linkC 9 (1 + V) (.slice A12 k c12) (.slice B12 k d12) S 0 true) 24)).drewN q2)
                have HSZ := Lib.hid ((HST.out.alloc (.cells (linkC 9 (1 + V) (.slice A12 k c12) (.slice B12 k d12) S 0 true) 24)).drewN q2)
                have BWZ := Lib.hid (below_drewN (BWT.out.alloc (by omega) (.cells (linkC 9 (1 + V) (.slice A12 k c12) (.slice B12 k d12) S 0 true) 24)) q2)
                have zz0 : ((wt.alloc (.cells (linkC 9 (1 + V) (.slice A12 k c12) (.slice B12 k d12) S 0 true) 24)).drewN q2).heap.size = wt.heap.size + 1 := by rw [size_drewN]; simp
                clear KT RLT RST HRT HST BWT d4 e4
                generalize World.drewN (World.alloc wt _) q2 = wz at *
                have d4 := KZ.out.cell
                have e4 := KZ.out.frozen
                have d5 := KN.out.cell
                have e5 := KN.out.frozen
                have n7 := grow7 wz w3.heap.size (.int .i64 9) (.int .i64 (1 + V)) (.slice A12 k c12) (.slice B12 k d12) (.int .i64 S) (.int .i64 0) (.bool true)
                have KL := Lib.hid (blk7 KZ.out (.int .i64 9) (.int .i64 (1 + V)) (.slice A12 k c12) (.slice B12 k d12) (.int .i64 S) (.int .i64 0) (.bool true))
                have ya : ∀ a, A12 = some a → a.block ≠ w3.heap.size := fun a ha => by have := (g12 a ha).1; omega
                have yb : ∀ a, B12 = some a → a.block ≠ w3.heap.size := fun a ha => by have := (j12 a ha).1; omega
                have RLL := Lib.hid (RLZ.out.grown n7 (fun a ha e => by have := RGL.out a ha; injection e; omega))
                have RSL := Lib.hid (RSZ.out.grown n7 (fun a ha e => by have := RGS.out a ha; injection e; omega))
                have HRL := Lib.hid (HRZ.out.grown n7 (fun a ha e => ya a ha (by injection e)))
                have HSL := Lib.hid (HSZ.out.grown n7 (fun a ha e => yb a ha (by injection e)))
                have BWL := Lib.hid (BWZ.out.trans (Grow.below n7 (by omega) (fun x hx => by injection hx; omega)))
                have gAL := Lib.hid ya
                have gBL := Lib.hid yb
                have zzy := n7.size
                have zLL : w3.heap.size < (((((((wz.setCell ⟨w3.heap.size, 0, none⟩ (.int .i64 9)).setCell ⟨w3.heap.size, 1, none⟩ (.int .i64 (1 + V))).setCell ⟨w3.heap.size, 2, none⟩ (.slice A12 k c12)).setCell ⟨w3.heap.size, 3, none⟩ (.slice B12 k d12)).setCell ⟨w3.heap.size, 4, none⟩ (.int .i64 S)).setCell ⟨w3.heap.size, 5, none⟩ (.int .i64 0)).setCell ⟨w3.heap.size, 6, none⟩ (.bool true)).heap.size := by omega
                clear KZ KN RLZ RSZ HRZ HSZ BWZ n7 ya yb
                go_wp2
                go_loopw [17, 29] (fun ev i wr => ∃ a : Nat, (a : Int) ≤ 1 + V ∧ i = .int .i64 a ∧ ev = .int .i64 0 ∧ ∃ Ax cx Bx dx ag fr ws, Hid ((a : Int) < 1 + V ∧ ag = (a : Int) ∧ fr = true ∧ ws = ls ∨ (a : Int) = 1 + V ∧ ag = 0 ∧ fr = false ∧ ws = ss) ∧
                  Hid (Blk wr w3.heap.size 24 (linkC 9 (1 + V) (.slice Ax k cx) (.slice Bx k dx) S ag fr)) ∧ Hid (Rd wr 1 Ax k (ints ss)) ∧ Hid (Rd wr 1 Bx k (ints ws)) ∧ Hid (∀ a, Ax = some a → a.block ≠ w3.heap.size) ∧ Hid (∀ a, Bx = some a → a.block ≠ w3.heap.size) ∧
                  Hid (Rd wr 1 LA k (ints ls)) ∧ Hid (Rd wr 1 SA k (ints ss)) ∧ Hid (Below w.heap.size w wr) ∧ w3.heap.size < wr.heap.size) (fun _ i _ => (1 + V).toNat - (intOf i).toNat)
                case atStart => exact ⟨0, by omega, rfl, rfl, A12, c12, B12, d12, 0, true, ls, .inl ⟨by omega, rfl, rfl, rfl⟩, KL, HRL, HSL, gAL, gBL, RLL, RSL, BWL, zLL⟩
                case round =>
                  clear KL HRL HSL gAL gBL RLL RSL BWL zLL
                  obtain ⟨a, ha, rfl, rfl, Ax, cx, Bx, dx, ag, fr, ws, hcs, KX, HRX, HSX, gAX, gBX, RLX, RSX, BWX, zX⟩ := hrel
                  have x4 := KX.out.cell
                  have y4 := KX.out.frozen
                  by_cases hlt3 : (a : Int) < 1 + V
                  · rcases hcs.out with ⟨_, rfl, rfl, rfl⟩ | ⟨hbad, _⟩
                    rotate_left
                    · omega
                    clear hcs
                    go_wp2_with fail
                    refine (equal_any Bx LA k k dx lc ws ws _ HSX.out RLX.out (by unfold maxLen; omega)).mono ?_
                    rintro e wa ⟨rfl, q2, rfl⟩
                    rw [show decide (ws = ws) = true from by simp]
                    have HT := Lib.hid (Tick_any 9 (1 + V) Ax k cx Bx k dx S (a : Int) true ss ws (wr.drewN q2) (HRX.out.drewN q2) (by omega) (HSX.out.drewN q2) (by omega) (by omega) (by omega))
                    go_wp2_with fail
                    refine HT.out.mono ?_
                    intro e wb hf
                    rw [E4.out _ (by omega) hlt3] at hf
                    have hbase : (wr.drewN q2).heap.size = wr.heap.size := rfl
                    have BD := Lib.hid (below_drewN (Below.refl wr.heap.size wr) q2)
                    by_cases hend : (a : Int) + 1 = 1 + V
                    · rw [if_pos hend] at hf
                      obtain ⟨Ay, cy, By, dy, rfl, hb, ry, sy, gy, jy⟩ := hf.rd
                      simp only [HLS.out] at ry sy ⊢
                      have zy := hb.size
                      have bb := BD.out.trans hb
                      have k7 := blk7 (KX.out.below bb) (.int .i64 9) (.int .i64 (1 + V)) (.slice Ay k cy) (.slice By k dy) (.int .i64 S) (.int .i64 0) (.bool false)
                      have n7 := grow7 wb w3.heap.size (.int .i64 9) (.int .i64 (1 + V)) (.slice Ay k cy) (.slice By k dy) (.int .i64 S) (.int .i64 0) (.bool false)
                      have ya : ∀ a, Ay = some a → a.block ≠ w3.heap.size := fun a ha => by have := (gy a ha).1; omega
                      have yb : ∀ a, By = some a → a.block ≠ w3.heap.size := fun a ha => by have := (jy a ha).1; omega
                      have RLY := Lib.hid ((RLX.out.below bb).grown n7 (fun a ha e => by have := RGL.out a ha; injection e; omega))
                      have RSY := Lib.hid ((RSX.out.below bb).grown n7 (fun a ha e => by have := RGS.out a ha; injection e; omega))
                      have HRY := Lib.hid (ry.grown n7 (fun a ha e => ya a ha (by injection e)))
                      have HSY := Lib.hid (sy.grown n7 (fun a ha e => yb a ha (by injection e)))
                      have BWY := Lib.hid ((BWX.out.trans (bb.mono (by omega))).trans (Grow.below n7 (by omega) (fun x hx => by injection hx; omega)))
                      have zzy := n7.size
                      have x5 := (KX.out.below bb).cell
                      have y5 := (KX.out.below bb).frozen
                      have KY := Lib.hid k7
                      have YA := Lib.hid ya
                      have YB := Lib.hid yb
                      clear x4 y4 hf hb bb k7 n7 ry sy ya yb HT
                      go_wp2
                      go_roundw
                      case rel => exact ⟨a + 1, by omega, by go_num, rfl, Ay, cy, By, dy, 0, false, ss, .inr ⟨by omega, rfl, rfl, rfl⟩, KY, HRY, HSY, YA, YB, RLY, RSY, BWY, by omega⟩
                      case measure => simp [intOf]; omega
                    · rw [if_neg hend] at hf
                      obtain ⟨Ay, cy, By, dy, rfl, hb, ry, sy, gy, jy⟩ := hf.rd
                      simp only [HLS.out, HLL.out] at ry sy ⊢
                      have zy := hb.size
                      have bb := BD.out.trans hb
                      have k7 := blk7 (KX.out.below bb) (.int .i64 9) (.int .i64 (1 + V)) (.slice Ay k cy) (.slice By k dy) (.int .i64 S) (.int .i64 ((a : Int) + 1)) (.bool true)
                      have n7 := grow7 wb w3.heap.size (.int .i64 9) (.int .i64 (1 + V)) (.slice Ay k cy) (.slice By k dy) (.int .i64 S) (.int .i64 ((a : Int) + 1)) (.bool true)
                      have ya : ∀ a, Ay = some a → a.block ≠ w3.heap.size := fun a ha => by have := (gy a ha).1; omega
                      have yb : ∀ a, By = some a → a.block ≠ w3.heap.size := fun a ha => by have := (jy a ha).1; omega
                      have RLY := Lib.hid ((RLX.out.below bb).grown n7 (fun a ha e => by have := RGL.out a ha; injection e; omega))
                      have RSY := Lib.hid ((RSX.out.below bb).grown n7 (fun a ha e => by have := RGS.out a ha; injection e; omega))
                      have HRY := Lib.hid (ry.grown n7 (fun a ha e => ya a ha (by injection e)))
                      have HSY := Lib.hid (sy.grown n7 (fun a ha e => yb a ha (by injection e)))
                      have BWY := Lib.hid ((BWX.out.trans (bb.mono (by omega))).trans (Grow.below n7 (by omega) (fun x hx => by injection hx; omega)))
                      have zzy := n7.size
                      have x5 := (KX.out.below bb).cell
                      have y5 := (KX.out.below bb).frozen
                      have KY := Lib.hid k7
                      have YA := Lib.hid ya
                      have YB := Lib.hid yb
                      clear x4 y4 hf hb bb k7 n7 ry sy ya yb HT
                      go_wp2
                      go_roundw
                      case rel => exact ⟨a + 1, by omega, by go_num, rfl, Ay, cy, By, dy, (a : Int) + 1, true, ws, .inl ⟨by omega, by omega, rfl, rfl⟩, KY, HRY, HSY, YA, YB, RLY, RSY, BWY, by omega⟩
                      case measure => simp [intOf]; omega
                  · rcases hcs.out with ⟨hbad, _⟩ | ⟨_, rfl, rfl, rfl⟩
                    · omega
                    clear hcs
                    go_wp2_with fail
                    refine (equal_any Bx SA k k dx sc ws ws _ HSX.out RSX.out (by unfold maxLen; omega)).mono ?_
                    rintro e wa ⟨rfl, q2, rfl⟩
                    rw [show decide (ws = ws) = true from by simp]
                    go_wp2
                    go_ret
                    exact ⟨rfl, below_drewN BWX.out _⟩
      · go_wp2_with fail
        refine (picked_any seq 256 _ hq1 hq2 (by omega) (by omega)).mono ?_
        rintro e w2 ⟨rfl, rfl⟩
        rw [HS.out]
        go_wp2_with fail
        refine (picked_any watch 30 _ hv1 hv2 (by omega) (by omega)).mono ?_
        rintro e w2 ⟨rfl, rfl⟩
        rw [HV.out]
        go_wp2_with fail
        refine (Start_any 9 (1 + V) SA k sc ss _ RS.out (by omega) (by omega)).mono ?_
        intro e w3 hf
        rw [ES.out] at hf
        obtain ⟨A3, c3, B3, d3, rfl, hb3, r3, s3, g3, j3⟩ := hf.rd
        simp only [HLS.out] at r3 s3 ⊢
        have z3 := hb3.size
        have HR3 := Lib.hid r3
        have HS3 := Lib.hid s3
        have HB3 := Lib.hid hb3
        clear hf hb3 r3 s3
        go_wp2_with fail
        refine (Frame_any 9 S LA k lc ls _ ((RL.out.below HB3.out).alloc _) (by omega)).mono ?_
        intro e w4 hf
        rw [E1.out] at hf
        obtain ⟨A4, c4, rfl, o4, hb4⟩ := hf
        simp only [F1L.out] at o4 ⊢
        have z4 := hb4.size
        simp only [World.size_alloc] at z4
        have k4 := (Blk.new w3 24 (linkC 9 (1 + V) (.slice A3 k c3) (.slice B3 k d3) 0 0 false)).below hb4
        have n4 := (below_alloc (.cells (linkC 9 (1 + V) (.slice A3 k c3) (.slice B3 k d3) 0 0 false) 24)).trans (hb4.mono (by simp))
        have RL4 := Lib.hid ((RL.out.below HB3.out).below n4)
        have RS4 := Lib.hid ((RS.out.below HB3.out).below n4)
        have HR4 := Lib.hid (HR3.out.below n4)
        have HS4 := Lib.hid (HS3.out.below n4)
        have BW4 := Lib.hid (BR.out.trans ((HB3.out.trans (n4.mono z3)).mono zR))
        have RF4 := Lib.hid (Rd.own o4)
        obtain ⟨hc41, hc42, rg4⟩ := own_range o4
        have G4 := Lib.hid rg4
        have K4 := Lib.hid k4
        have d4 := k4.cell
        have e4 := k4.frozen
        clear o4 hb4 n4 k4 rg4 RL RS HR3 HS3 HB3 BR
        have z41 : w3.heap.size < w4.heap.size := by omega
        go_wp2_with fail
        refine (Frame_any 9 ((S + 1) % 256) SA k sc ss _ RS4.out (by omega)).mono ?_
        intro e w5 hf
        rw [E2.out] at hf
        obtain ⟨A5, c5, rfl, o5, hb5⟩ := hf
        simp only [F2L.out] at o5 ⊢
        have z5 := hb5.size
        have k5 := K4.out.below hb5
        have RL5 := Lib.hid (RL4.out.below hb5)
        have RS5 := Lib.hid (RS4.out.below hb5)
        have HR5 := Lib.hid (HR4.out.below hb5)
        have HS5 := Lib.hid (HS4.out.below hb5)
        have RF5 := Lib.hid (RF4.out.below hb5)
        have BW5 := Lib.hid (BW4.out.trans (hb5.mono (by omega)))
        have RT5 := Lib.hid (Rd.own o5)
        obtain ⟨hc51, hc52, rg5⟩ := own_range o5
        have G5 := Lib.hid rg5
        have K5 := Lib.hid k5
        clear d4 e4
        have d4 := k5.cell
        have e4 := k5.frozen
        clear o5 hb5 k5 rg5 RL4 RS4 HR4 HS4 RF4 BW4 K4
        have z51 : w3.heap.size < w5.heap.size := by omega
        go_wp2_with fail
        refine (Take_any 9 (1 + V) A3 k c3 B3 k d3 0 0 false ss ss A4 (5 + 2 * k) c4 F1 w5 HR5.out (by omega) HS5.out (by omega) (by omega) (by omega) RF5.out hc41 (by omega) hc42).mono ?_
        intro e w6 hf
        rw [E3.out] at hf
        obtain ⟨A6, c6, B6, d6, rfl, hb6, r6, s6, g6, j6⟩ := hf.rd
        simp only [HLS.out, HLL.out] at r6 s6 ⊢
        have z6 := hb6.size
        have k6 := blk7 (K5.out.below hb6) (.int .i64 9) (.int .i64 (1 + V)) (.slice A6 k c6) (.slice B6 k d6) (.int .i64 S) (.int .i64 0) (.bool true)
        have n6 := grow7 w6 w3.heap.size (.int .i64 9) (.int .i64 (1 + V)) (.slice A6 k c6) (.slice B6 k d6) (.int .i64 S) (.int .i64 0) (.bool true)
        have RL6 := Lib.hid ((RL5.out.below hb6).grown n6 (fun a ha e => by have := RGL.out a ha; injection e; omega))
        have RS6 := Lib.hid ((RS5.out.below hb6).grown n6 (fun a ha e => by have := RGS.out a ha; injection e; omega))
        have RT6 := Lib.hid ((RT5.out.below hb6).grown n6 (fun a ha e => by have := G5.out a ha; injection e; omega))
        have HR6 := Lib.hid (r6.grown n6 (fun a ha e => by have := g6 a ha; injection e; omega))
        have HS6 := Lib.hid (s6.grown n6 (fun a ha e => by have := j6 a ha; injection e; omega))
        have BW6 := Lib.hid ((BW5.out.trans (hb6.mono (by omega))).trans (Grow.below n6 (by omega) (fun x hx => by injection hx; omega)))
        have zz6 := n6.size
        clear d4 e4
        have d4 := (K5.out.below hb6).cell
        have e4 := (K5.out.below hb6).frozen
        have K6 := Lib.hid k6
        have N6 := Lib.hid n6
        clear hf hb6 n6 k6 RL5 RS5 HR5 HS5 RF5 BW5 K5 RT5 r6 s6
        go_wp2_with fail
        generalize hW : World.setCell (World.setCell (World.setCell (World.setCell (World.setCell (World.setCell (World.setCell w6 _ _) _ _) _ _) _ _) _ _) _ _) _ _ = w7 at *
        clear hW d4 e4
        refine (equal_any B6 LA k k d6 lc ls ls _ HS6.out RL6.out (by unfold maxLen; omega)).mono ?_
        rintro e w8 ⟨rfl, q, rfl⟩
        rw [show decide (ls = ls) = true from by simp]
        have zw : (w7.drewN q).heap.size = w7.heap.size := rfl
        have K7 := Lib.hid (K6.out.drewN q)
        have RL7 := Lib.hid (RL6.out.drewN q)
        have RS7 := Lib.hid (RS6.out.drewN q)
        have RT7 := Lib.hid (RT6.out.drewN q)
        have HR7 := Lib.hid (HR6.out.drewN q)
        have HS7 := Lib.hid (HS6.out.drewN q)
        have BW7 := Lib.hid (below_drewN BW6.out q)
        clear K6 RL6 RS6 RT6 HR6 HS6 BW6 N6
        generalize hW : World.drewN w7 q = w8 at *
        clear hW
        have zk := K7.out.lt
        go_wp2_with (at_builtin; refine wpList_append_rd _ rfl (.const (.slice none 0 0)) (.tmp 104) 31 rfl w8.heap.size 5 j0 _ 1 1 Try.underlying31 hj0 hy0 hy1 hy2 rfl (by omega) _ 0 [] rfl (World.ownsRow_nil _ _ _ _) A5 (5 + 2 * k) c5 (byts F2) rfl RT7.out ?_ ?_ ?_ ?_ ?_)
        · intro u hu
          obtain ⟨x, _, rfl⟩ := List.mem_map.1 hu
          rfl
        · unfold maxLen; omega
        · omega
        · simp
        intro v9 w9 o9 g9' at9
        clear at9
        obtain ⟨A9, c9, rfl, hs91, hs92, _⟩ := own_shape o9
        try simp only [Nat.zero_add, List.nil_append] at o9 hs91
        have hb9 := grow_none (show World.grownBy _ w9 none from g9')
        obtain ⟨gb, rfl, hgb1, hgb2⟩ := own_head o9 (by omega)
        have z9 := hb9.size
        have K9 := Lib.hid (K7.out.below hb9)
        have RL9 := Lib.hid (RL7.out.below hb9)
        have RS9 := Lib.hid (RS7.out.below hb9)
        have HR9 := Lib.hid (HR7.out.below hb9)
        have HS9 := Lib.hid (HS7.out.below hb9)
        have BW9 := Lib.hid (BW7.out.trans (hb9.mono (by omega)))
        have OB := Lib.hid o9
        clear o9 g9' hb9 K7 RL7 RS7 RT7 HR7 HS7 BW7
        go_wp2_with fail
        refine (picked_any at_ _ _ ha1 ha2 (by omega) (by omega)).mono ?_
        rintro e w10 ⟨rfl, rfl⟩
        have hka := pick_lt (n := at_) (m := 8 * (5 + 2 * (k : Int))) (by omega)
        generalize hPP : pickN at_ (8 * (5 + 2 * (k : Int))) = PP at *
        obtain ⟨P, hP⟩ := Int.eq_ofNat_of_zero_le hka.1
        subst hP
        clear hPP
        go_wp2_with fail
        refine (picked_any bts 65535 _ hb1 hb2 (by omega) (by omega)).mono ?_
        rintro e w11 ⟨rfl, rfl⟩
        have hkb := pick_lt (n := bts) (m := 65535) (by omega)
        generalize hPP : pickN bts 65535 = PP at *
        obtain ⟨mb, hmb⟩ := Int.eq_ofNat_of_zero_le hkb.1
        subst hmb
        clear hPP
        go_wp2
        rw [show 1 + (mb : Int) = ((1 + mb : Nat) : Int) by omega]
        obtain ⟨M, hM⟩ : ∃ M, M = 1 + mb := ⟨_, rfl⟩
        have hM1 : 1 ≤ M := by omega
        have hM2 : M < 65536 := by omega
        rw [← hM]
        clear hM hkb
        have hP8 : P < 8 * (5 + 2 * k) := by omega
        clear hka
        go_loopw [25, 26] (fun tv i wr => ∃ j : Nat, j ≤ 16 ∧ i = .int .i64 j ∧ ∃ (acc : Nat) (cs : List UInt8) (tb : Bool), acc < 2 ^ j ∧ tv = .bool tb ∧ Hid (tb = decide (acc ≠ 0)) ∧ Hid (cs.length = 5 + 2 * k) ∧ Hid (numB cs = numB F2 ^^^ acc * 2 ^ P) ∧
          Hid (wr.ownsRow w7.heap.size 5 1 (.slice (some ⟨gb, 0, none⟩) (5 + 2 * k) c9) (5 + 2 * k) (byts cs)) ∧ Hid (w11.grownBy wr (some gb))) (fun _ i _ => 16 - (intOf i).toNat)
        case atStart => exact ⟨0, by omega, rfl, 0, F2, false, by omega, rfl, rfl, F2L, by simp [Hid], OB, Grow.refl _ _⟩
        case round =>
          obtain ⟨j, hj, rfl, acc, cs, tb, hacc, rfl, HTB, HCL, HNB, HOB, HGB⟩ := hrel
          by_cases hlt2 : j < 16 ∧ P + j < 8 * (5 + 2 * k)
          · obtain ⟨hl1, hl2⟩ := hlt2
            cases ht : (bits .and .i64 ((M : Int) / 2 ^ j) 1 == 1)
            · go_wp2
              go_roundw
              case rel => exact ⟨j + 1, by omega, by go_num, acc, cs, tb, by rw [Nat.pow_succ]; omega, rfl, HTB, HCL, HNB, HOB, HGB⟩
              case measure => simp [intOf]; omega
            · obtain ⟨p, hp⟩ : ∃ p, p = (P + j) / 8 := ⟨_, rfl⟩
              obtain ⟨s, hs⟩ : ∃ s, s = (P + j) % 8 := ⟨_, rfl⟩
              have hpl : p < 5 + 2 * k := by omega
              have hs8 : s < 8 := by omega
              have hi1 : ((P : Int) + (j : Int)) / 8 = (p : Int) := by omega
              have hi2 : ((P : Int) + (j : Int)) % 8 = (s : Int) := by omega
              have hc : wr.cell? ⟨gb, p, none⟩ = some (.int .u8 ((cs.getD p 0).toNat : Int)) := by
                have hcl := HCL.out
                rw [HOB.out.cellAt p (by omega)]
                simp [byts, List.getD_eq_getElem?_getD, List.getElem?_eq_getElem (show p < cs.length by omega)]
              generalize hx : cs.getD p 0 = x at hc
              have hfz := HOB.out.frozenAt p
              go_wp2
              have v1 : IntKind.i64.wrap ((P : Int) + (j : Int)) = (P : Int) + (j : Int) := by rw [show (P : Int) + (j : Int) = ((P + j : Nat) : Int) by omega]; exact wrap_i64_nat _ (by omega)
              have v2 : IntKind.i64.wrap (((P : Int) + (j : Int)).tdiv 8) = (p : Int) := by rw [Int.tdiv_eq_ediv_of_nonneg (by omega), hi1]; exact wrap_i64_nat _ (by omega)
              have v4 : ((P : Int) + (j : Int)).tmod 8 = (s : Int) := by rw [Int.tmod_eq_emod_of_nonneg (by omega), hi2]
              have v3 : IntKind.i64.wrap (((P : Int) + (j : Int)).tmod 8) = (s : Int) := by rw [Int.tmod_eq_emod_of_nonneg (by omega), hi2]; exact wrap_i64_nat _ (by omega)
              have hpi : (p : Int) < 5 + 2 * (k : Int) := by omega
              have HP := Lib.hid hp
              have HSS := Lib.hid hs
              have HX9 := Lib.hid hx
              clear hp hs hi1 hi2 hx
              go_region_law (fail)
              have hval : bits .xor .u8 (x.toNat : Int) (IntKind.u8.wrap (2 ^ s)) = ((x ^^^ UInt8.ofNat (2 ^ s)).toNat : Int) := by
                rw [u8_pow hs8, u8_xor _ _ x.toNat_lt (UInt8.toNat_lt _), UInt8.toNat_xor]
              rw [hval]
              obtain ⟨g1, g2⟩ := HOB.out.stored p (.int .u8 ((x ^^^ UInt8.ofNat (2 ^ s)).toNat : Int))
              have hset : (byts cs).set p (.int .u8 ((x ^^^ UInt8.ofNat (2 ^ s)).toNat : Int)) = byts (cs.set p (x ^^^ UInt8.ofNat (2 ^ s))) := by simp [byts, List.map_set]
              rw [hset] at g1
              have G1 := Lib.hid g1
              have G2 := Lib.hid g2
              clear hval g1 g2 hset v1 v2 v3 v4
              generalize World.setCell wr _ _ = wt at *
              go_wp2
              go_roundw
              case rel =>
                obtain ⟨q1, q2⟩ := turn_acc hacc
                exact ⟨j + 1, by omega, by go_num, acc ^^^ 2 ^ j, cs.set p (x ^^^ UInt8.ofNat (2 ^ s)), true, q1, rfl, by simp [Hid, q2], by simpa [Hid] using HCL.out, turn_num HX9.out HP.out HSS.out (by rw [HCL.out]; omega) HNB.out, G1.out, Grow.trans (Grow.trans HGB.out G2.out (fun _ _ => .inl rfl)) (grown_drewN wt 1) (fun x hx => by cases hx)⟩
              case measure => simp [intOf]; omega
          · have hjj : 16 ≤ j ∨ (j < 16 ∧ 8 * (5 + 2 * k) ≤ P + j) := by omega
            obtain ⟨we, hwe⟩ : ∃ we : World, we = wr := ⟨_, rfl⟩
            subst hwe
            have gk : w3.heap.size ≠ gb := by omega
            have K10 := Lib.hid (K9.out.grown HGB.out (fun e => by injection e; omega))
            have RL10 := Lib.hid (RL9.out.grown HGB.out (fun a ha e => by have := RGL.out a ha; injection e; omega))
            have RS10 := Lib.hid (RS9.out.grown HGB.out (fun a ha e => by have := RGS.out a ha; injection e; omega))
            have HR10 := Lib.hid (HR9.out.grown HGB.out (fun a ha e => by have := g6 a ha; injection e; omega))
            have HS10 := Lib.hid (HS9.out.grown HGB.out (fun a ha e => by have := j6 a ha; injection e; omega))
            have RB10 := Lib.hid (Rd.own HOB.out)
            have zz10 := HGB.out.size
            have BW10 := Lib.hid (BW9.out.trans (Grow.below HGB.out (by omega) (fun x hx => by injection hx; omega)))
            have d4 := K10.out.cell
            have e4 := K10.out.frozen
            have zl10 := K10.out.lt
            clear K9 RL9 RS9 HR9 HS9 BW9 HOB HGB OB
            clear hlt2
            cases tb
            · clear hj
              rcases hjj with hj1 | ⟨hj1, hj2⟩
              · have KL := K10
                have HRL := HR10
                have HSL := HS10
                have gAL : Hid (∀ a, A6 = some a → a.block ≠ w3.heap.size) := fun a ha => by have := g6 a ha; omega
                have gBL : Hid (∀ a, B6 = some a → a.block ≠ w3.heap.size) := fun a ha => by have := j6 a ha; omega
                have RLL := RL10
                have RSL := RS10
                have BWL := BW10
                have zLL : w3.heap.size < we.heap.size := by omega
                clear K10 HR10 HS10 RL10 RS10 BW10 d4 e4
                go_wp2
                go_loopw [17, 29] (fun ev i wr => ∃ a : Nat, (a : Int) ≤ 1 + V ∧ i = .int .i64 a ∧ ev = .int .i64 0 ∧ ∃ Ax cx Bx dx ag fr ws, Hid ((a : Int) < 1 + V ∧ ag = (a : Int) ∧ fr = true ∧ ws = ls ∨ (a : Int) = 1 + V ∧ ag = 0 ∧ fr = false ∧ ws = ss) ∧
                  Hid (Blk wr w3.heap.size 24 (linkC 9 (1 + V) (.slice Ax k cx) (.slice Bx k dx) S ag fr)) ∧ Hid (Rd wr 1 Ax k (ints ss)) ∧ Hid (Rd wr 1 Bx k (ints ws)) ∧ Hid (∀ a, Ax = some a → a.block ≠ w3.heap.size) ∧ Hid (∀ a, Bx = some a → a.block ≠ w3.heap.size) ∧
                  Hid (Rd wr 1 LA k (ints ls)) ∧ Hid (Rd wr 1 SA k (ints ss)) ∧ Hid (Below w.heap.size w wr) ∧ w3.heap.size < wr.heap.size) (fun _ i _ => (1 + V).toNat - (intOf i).toNat)
                case atStart => exact ⟨0, by omega, rfl, rfl, A6, c6, B6, d6, 0, true, ls, .inl ⟨by omega, rfl, rfl, rfl⟩, KL, HRL, HSL, gAL, gBL, RLL, RSL, BWL, zLL⟩
                case round =>
                  clear KL HRL HSL gAL gBL RLL RSL BWL zLL
                  obtain ⟨a, ha, rfl, rfl, Ax, cx, Bx, dx, ag, fr, ws, hcs, KX, HRX, HSX, gAX, gBX, RLX, RSX, BWX, zX⟩ := hrel
                  have x4 := KX.out.cell
                  have y4 := KX.out.frozen
                  by_cases hlt3 : (a : Int) < 1 + V
                  · rcases hcs.out with ⟨_, rfl, rfl, rfl⟩ | ⟨hbad, _⟩
                    rotate_left
                    · omega
                    clear hcs
                    go_wp2_with fail
                    refine (equal_any Bx LA k k dx lc ws ws _ HSX.out RLX.out (by unfold maxLen; omega)).mono ?_
                    rintro e wa ⟨rfl, q2, rfl⟩
                    rw [show decide (ws = ws) = true from by simp]
                    have HT := Lib.hid (Tick_any 9 (1 + V) Ax k cx Bx k dx S (a : Int) true ss ws (wr.drewN q2) (HRX.out.drewN q2) (by omega) (HSX.out.drewN q2) (by omega) (by omega) (by omega))
                    go_wp2_with fail
                    refine HT.out.mono ?_
                    intro e wb hf
                    rw [E4.out _ (by omega) hlt3] at hf
                    have hbase : (wr.drewN q2).heap.size = wr.heap.size := rfl
                    have BD := Lib.hid (below_drewN (Below.refl wr.heap.size wr) q2)
                    by_cases hend : (a : Int) + 1 = 1 + V
                    · rw [if_pos hend] at hf
                      obtain ⟨Ay, cy, By, dy, rfl, hb, ry, sy, gy, jy⟩ := hf.rd
                      simp only [HLS.out] at ry sy ⊢
                      have zy := hb.size
                      have bb := BD.out.trans hb
                      have k7 := blk7 (KX.out.below bb) (.int .i64 9) (.int .i64 (1 + V)) (.slice Ay k cy) (.slice By k dy) (.int .i64 S) (.int .i64 0) (.bool false)
                      have n7 := grow7 wb w3.heap.size (.int .i64 9) (.int .i64 (1 + V)) (.slice Ay k cy) (.slice By k dy) (.int .i64 S) (.int .i64 0) (.bool false)
                      have ya : ∀ a, Ay = some a → a.block ≠ w3.heap.size := fun a ha => by have := (gy a ha).1; omega
                      have yb : ∀ a, By = some a → a.block ≠ w3.heap.size := fun a ha => by have := (jy a ha).1; omega
                      have RLY := Lib.hid ((RLX.out.below bb).grown n7 (fun a ha e => by have := RGL.out a ha; injection e; omega))
                      have RSY := Lib.hid ((RSX.out.below bb).grown n7 (fun a ha e => by have := RGS.out a ha; injection e; omega))
                      have HRY := Lib.hid (ry.grown n7 (fun a ha e => ya a ha (by injection e)))
                      have HSY := Lib.hid (sy.grown n7 (fun a ha e => yb a ha (by injection e)))
                      have BWY := Lib.hid ((BWX.out.trans (bb.mono (by omega))).trans (Grow.below n7 (by omega) (fun x hx => by injection hx; omega)))
                      have zzy := n7.size
                      have x5 := (KX.out.below bb).cell
                      have y5 := (KX.out.below bb).frozen
                      have KY := Lib.hid k7
                      have YA := Lib.hid ya
                      have YB := Lib.hid yb
                      clear x4 y4 hf hb bb k7 n7 ry sy ya yb HT
                      go_wp2
                      go_roundw
                      case rel => exact ⟨a + 1, by omega, by go_num, rfl, Ay, cy, By, dy, 0, false, ss, .inr ⟨by omega, rfl, rfl, rfl⟩, KY, HRY, HSY, YA, YB, RLY, RSY, BWY, by omega⟩
                      case measure => simp [intOf]; omega
                    · rw [if_neg hend] at hf
                      obtain ⟨Ay, cy, By, dy, rfl, hb, ry, sy, gy, jy⟩ := hf.rd
                      simp only [HLS.out, HLL.out] at ry sy ⊢
                      have zy := hb.size
                      have bb := BD.out.trans hb
                      have k7 := blk7 (KX.out.below bb) (.int .i64 9) (.int .i64 (1 + V)) (.slice Ay k cy) (.slice By k dy) (.int .i64 S) (.int .i64 ((a : Int) + 1)) (.bool true)
                      have n7 := grow7 wb w3.heap.size (.int .i64 9) (.int .i64 (1 + V)) (.slice Ay k cy) (.slice By k dy) (.int .i64 S) (.int .i64 ((a : Int) + 1)) (.bool true)
                      have ya : ∀ a, Ay = some a → a.block ≠ w3.heap.size := fun a ha => by have := (gy a ha).1; omega
                      have yb : ∀ a, By = some a → a.block ≠ w3.heap.size := fun a ha => by have := (jy a ha).1; omega
                      have RLY := Lib.hid ((RLX.out.below bb).grown n7 (fun a ha e => by have := RGL.out a ha; injection e; omega))
                      have RSY := Lib.hid ((RSX.out.below bb).grown n7 (fun a ha e => by have := RGS.out a ha; injection e; omega))
                      have HRY := Lib.hid (ry.grown n7 (fun a ha e => ya a ha (by injection e)))
                      have HSY := Lib.hid (sy.grown n7 (fun a ha e => yb a ha (by injection e)))
                      have BWY := Lib.hid ((BWX.out.trans (bb.mono (by omega))).trans (Grow.below n7 (by omega) (fun x hx => by injection hx; omega)))
                      have zzy := n7.size
                      have x5 := (KX.out.below bb).cell
                      have y5 := (KX.out.below bb).frozen
                      have KY := Lib.hid k7
                      have YA := Lib.hid ya
                      have YB := Lib.hid yb
                      clear x4 y4 hf hb bb k7 n7 ry sy ya yb HT
                      go_wp2
                      go_roundw
                      case rel => exact ⟨a + 1, by omega, by go_num, rfl, Ay, cy, By, dy, (a : Int) + 1, true, ws, .inl ⟨by omega, by omega, rfl, rfl⟩, KY, HRY, HSY, YA, YB, RLY, RSY, BWY, by omega⟩
                      case measure => simp [intOf]; omega
                  · rcases hcs.out with ⟨hbad, _⟩ | ⟨_, rfl, rfl, rfl⟩
                    · omega
                    clear hcs
                    go_wp2_with fail
                    refine (equal_any Bx SA k k dx sc ws ws _ HSX.out RSX.out (by unfold maxLen; omega)).mono ?_
                    rintro e wa ⟨rfl, q2, rfl⟩
                    rw [show decide (ws = ws) = true from by simp]
                    go_wp2
                    go_ret
                    exact ⟨rfl, below_drewN BWX.out _⟩
              · have KL := K10
                have HRL := HR10
                have HSL := HS10
                have gAL : Hid (∀ a, A6 = some a → a.block ≠ w3.heap.size) := fun a ha => by have := g6 a ha; omega
                have gBL : Hid (∀ a, B6 = some a → a.block ≠ w3.heap.size) := fun a ha => by have := j6 a ha; omega
                have RLL := RL10
                have RSL := RS10
                have BWL := BW10
                have zLL : w3.heap.size < we.heap.size := by omega
                clear K10 HR10 HS10 RL10 RS10 BW10 d4 e4
                go_wp2
                go_loopw [17, 29] (fun ev i wr => ∃ a : Nat, (a : Int) ≤ 1 + V ∧ i = .int .i64 a ∧ ev = .int .i64 0 ∧ ∃ Ax cx Bx dx ag fr ws, Hid ((a : Int) < 1 + V ∧ ag = (a : Int) ∧ fr = true ∧ ws = ls ∨ (a : Int) = 1 + V ∧ ag = 0 ∧ fr = false ∧ ws = ss) ∧
                  Hid (Blk wr w3.heap.size 24 (linkC 9 (1 + V) (.slice Ax k cx) (.slice Bx k dx) S ag fr)) ∧ Hid (Rd wr 1 Ax k (ints ss)) ∧ Hid (Rd wr 1 Bx k (ints ws)) ∧ Hid (∀ a, Ax = some a → a.block ≠ w3.heap.size) ∧ Hid (∀ a, Bx = some a → a.block ≠ w3.heap.size) ∧
                  Hid (Rd wr 1 LA k (ints ls)) ∧ Hid (Rd wr 1 SA k (ints ss)) ∧ Hid (Below w.heap.size w wr) ∧ w3.heap.size < wr.heap.size) (fun _ i _ => (1 + V).toNat - (intOf i).toNat)
                case atStart => exact ⟨0, by omega, rfl, rfl, A6, c6, B6, d6, 0, true, ls, .inl ⟨by omega, rfl, rfl, rfl⟩, KL, HRL, HSL, gAL, gBL, RLL, RSL, BWL, zLL⟩
                case round =>
                  clear KL HRL HSL gAL gBL RLL RSL BWL zLL
                  obtain ⟨a, ha, rfl, rfl, Ax, cx, Bx, dx, ag, fr, ws, hcs, KX, HRX, HSX, gAX, gBX, RLX, RSX, BWX, zX⟩ := hrel
                  have x4 := KX.out.cell
                  have y4 := KX.out.frozen
                  by_cases hlt3 : (a : Int) < 1 + V
                  · rcases hcs.out with ⟨_, rfl, rfl, rfl⟩ | ⟨hbad, _⟩
                    rotate_left
                    · omega
                    clear hcs
                    go_wp2_with fail
                    refine (equal_any Bx LA k k dx lc ws ws _ HSX.out RLX.out (by unfold maxLen; omega)).mono ?_
                    rintro e wa ⟨rfl, q2, rfl⟩
                    rw [show decide (ws = ws) = true from by simp]
                    have HT := Lib.hid (Tick_any 9 (1 + V) Ax k cx Bx k dx S (a : Int) true ss ws (wr.drewN q2) (HRX.out.drewN q2) (by omega) (HSX.out.drewN q2) (by omega) (by omega) (by omega))
                    go_wp2_with fail
                    refine HT.out.mono ?_
                    intro e wb hf
                    rw [E4.out _ (by omega) hlt3] at hf
                    have hbase : (wr.drewN q2).heap.size = wr.heap.size := rfl
                    have BD := Lib.hid (below_drewN (Below.refl wr.heap.size wr) q2)
                    by_cases hend : (a : Int) + 1 = 1 + V
                    · rw [if_pos hend] at hf
                      obtain ⟨Ay, cy, By, dy, rfl, hb, ry, sy, gy, jy⟩ := hf.rd
                      simp only [HLS.out] at ry sy ⊢
                      have zy := hb.size
                      have bb := BD.out.trans hb
                      have k7 := blk7 (KX.out.below bb) (.int .i64 9) (.int .i64 (1 + V)) (.slice Ay k cy) (.slice By k dy) (.int .i64 S) (.int .i64 0) (.bool false)
                      have n7 := grow7 wb w3.heap.size (.int .i64 9) (.int .i64 (1 + V)) (.slice Ay k cy) (.slice By k dy) (.int .i64 S) (.int .i64 0) (.bool false)
                      have ya : ∀ a, Ay = some a → a.block ≠ w3.heap.size := fun a ha => by have := (gy a ha).1; omega
                      have yb : ∀ a, By = some a → a.block ≠ w3.heap.size := fun a ha => by have := (jy a ha).1; omega
                      have RLY := Lib.hid ((RLX.out.below bb).grown n7 (fun a ha e => by have := RGL.out a ha; injection e; omega))
                      have RSY := Lib.hid ((RSX.out.below bb).grown n7 (fun a ha e => by have := RGS.out a ha; injection e; omega))
                      have HRY := Lib.hid (ry.grown n7 (fun a ha e => ya a ha (by injection e)))
                      have HSY := Lib.hid (sy.grown n7 (fun a ha e => yb a ha (by injection e)))
                      have BWY := Lib.hid ((BWX.out.trans (bb.mono (by omega))).trans (Grow.below n7 (by omega) (fun x hx => by injection hx; omega)))
                      have zzy := n7.size
                      have x5 := (KX.out.below bb).cell
                      have y5 := (KX.out.below bb).frozen
                      have KY := Lib.hid k7
                      have YA := Lib.hid ya
                      have YB := Lib.hid yb
                      clear x4 y4 hf hb bb k7 n7 ry sy ya yb HT
                      go_wp2
                      go_roundw
                      case rel => exact ⟨a + 1, by omega, by go_num, rfl, Ay, cy, By, dy, 0, false, ss, .inr ⟨by omega, rfl, rfl, rfl⟩, KY, HRY, HSY, YA, YB, RLY, RSY, BWY, by omega⟩
                      case measure => simp [intOf]; omega
                    · rw [if_neg hend] at hf
                      obtain ⟨Ay, cy, By, dy, rfl, hb, ry, sy, gy, jy⟩ := hf.rd
                      simp only [HLS.out, HLL.out] at ry sy ⊢
                      have zy := hb.size
                      have bb := BD.out.trans hb
                      have k7 := blk7 (KX.out.below bb) (.int .i64 9) (.int .i64 (1 + V)) (.slice Ay k cy) (.slice By k dy) (.int .i64 S) (.int .i64 ((a : Int) + 1)) (.bool true)
                      have n7 := grow7 wb w3.heap.size (.int .i64 9) (.int .i64 (1 + V)) (.slice Ay k cy) (.slice By k dy) (.int .i64 S) (.int .i64 ((a : Int) + 1)) (.bool true)
                      have ya : ∀ a, Ay = some a → a.block ≠ w3.heap.size := fun a ha => by have := (gy a ha).1; omega
                      have yb : ∀ a, By = some a → a.block ≠ w3.heap.size := fun a ha => by have := (jy a ha).1; omega
                      have RLY := Lib.hid ((RLX.out.below bb).grown n7 (fun a ha e => by have := RGL.out a ha; injection e; omega))
                      have RSY := Lib.hid ((RSX.out.below bb).grown n7 (fun a ha e => by have := RGS.out a ha; injection e; omega))
                      have HRY := Lib.hid (ry.grown n7 (fun a ha e => ya a ha (by injection e)))
                      have HSY := Lib.hid (sy.grown n7 (fun a ha e => yb a ha (by injection e)))
                      have BWY := Lib.hid ((BWX.out.trans (bb.mono (by omega))).trans (Grow.below n7 (by omega) (fun x hx => by injection hx; omega)))
                      have zzy := n7.size
                      have x5 := (KX.out.below bb).cell
                      have y5 := (KX.out.below bb).frozen
                      have KY := Lib.hid k7
                      have YA := Lib.hid ya
                      have YB := Lib.hid yb
                      clear x4 y4 hf hb bb k7 n7 ry sy ya yb HT
                      go_wp2
                      go_roundw
                      case rel => exact ⟨a + 1, by omega, by go_num, rfl, Ay, cy, By, dy, (a : Int) + 1, true, ws, .inl ⟨by omega, by omega, rfl, rfl⟩, KY, HRY, HSY, YA, YB, RLY, RSY, BWY, by omega⟩
                      case measure => simp [intOf]; omega
                  · rcases hcs.out with ⟨hbad, _⟩ | ⟨_, rfl, rfl, rfl⟩
                    · omega
                    clear hcs
                    go_wp2_with fail
                    refine (equal_any Bx SA k k dx sc ws ws _ HSX.out RSX.out (by unfold maxLen; omega)).mono ?_
                    rintro e wa ⟨rfl, q2, rfl⟩
                    rw [show decide (ws = ws) = true from by simp]
                    go_wp2
                    go_ret
                    exact ⟨rfl, below_drewN BWX.out _⟩
            · have hne : acc ≠ 0 := by have h := HTB.out; simpa using h.symm
              have hp16 : 2 ^ j ≤ 2 ^ 16 := Nat.pow_le_pow_right (by omega) hj
              have hre := spoilt (cs := cs) (bs := F2) (by rw [HCL.out, F2L.out]) (m := acc) (k := P) (by omega) hne (by rw [F2L.out]; omega) HNB.out O2.out
              have hrf := refused (o := openF cs) C4.out hre
              generalize (openF cs).2 = er at hrf hre
              have ht : (er == 0) = false := by simpa using hre
              have HRF := Lib.hid hrf
              clear hrf hre hp16
              clear hj
              rcases hjj with hj1 | ⟨hj1, hj2⟩
              · go_wp2_with fail
                refine (Take_any 9 (1 + V) A6 k c6 B6 k d6 S 0 true ss ls (some ⟨gb, 0, none⟩) (5 + 2 * k) c9 cs we HR10.out (by omega) HS10.out (by omega) (by omega) (by omega) RB10.out hs91 (by omega) hs92).mono ?_
                intro e wt hf
                rw [HRF.out] at hf
                obtain ⟨A12, c12, B12, d12, rfl, hb12, r12, s12, g12, j12⟩ := hf.rd
                simp only [HLS.out, HLL.out] at r12 s12 ⊢
                have z12 := hb12.size
                have KT := Lib.hid (K10.out.below hb12)
                have RLT := Lib.hid (RL10.out.below hb12)
                have RST := Lib.hid (RS10.out.below hb12)
                have HRT := Lib.hid r12
                have HST := Lib.hid s12
                have BWT := Lib.hid (BW10.out.trans (hb12.mono (by omega)))
                clear d4 e4 hf hb12 r12 s12 K10 RL10 RS10 HR10 HS10 BW10 RB10
                have d4 := KT.out.cell
                have e4 := KT.out.frozen
                have zt1 : w3.heap.size < wt.heap.size := by omega
                go_wp2_with fail
                refine (equal_any B12 LA k k d12 lc ls ls _ (HST.out.alloc _) (RLT.out.alloc _) (by unfold maxLen; omega)).mono ?_
                rintro e wu ⟨rfl, q2, rfl⟩
                rw [show decide (ls = ls) = true from by simp]
                have KZ := Lib.hid ((KT.out.alloc (.cells (linkC 9 (1 + V) (.slice A12 k c12) (.slice B12 k d12) S 0 true) 24)).drewN q2)
                have KN := Lib.hid ((Blk.new wt 24 (linkC 9 (1 + V) (.slice A12 k c12) (.slice B12 k d12) S 0 true)).drewN q2)
                have RLZ := Lib.hid ((RLT.out.alloc (.cells (linkC 9 (1 + V) (.slice A12 k c12) (.slice B12 k d12) S 0 true) 24)).drewN q2)
                have RSZ := Lib.hid ((RST.out.alloc (.cells (linkC 9 (1 + V) (.slice A12 k c12) (.slice B12 k d12) S 0 true) 24)).drewN q2)
                have HRZ := Lib.hid ((HRT.out.alloc (.cells (linkC 9 (1 + V) (.slice A12 k c12) (.slice B12 k d12) S 0 true) 24)).drewN q2)
                have HSZ := Lib.hid ((HST.out.alloc (.cells (linkC 9 (1 + V) (.slice A12 k c12) (.slice B12 k d12) S 0 true) 24)).drewN q2)
                have BWZ := Lib.hid (below_drewN (BWT.out.alloc (by omega) (.cells (linkC 9 (1 + V) (.slice A12 k c12) (.slice B12 k d12) S 0 true) 24)) q2)
                have zz0 : ((wt.alloc (.cells (linkC 9 (1 + V) (.slice A12 k c12) (.slice B12 k d12) S 0 true) 24)).drewN q2).heap.size = wt.heap.size + 1 := by rw [size_drewN]; simp
                clear KT RLT RST HRT HST BWT d4 e4
                generalize World.drewN (World.alloc wt _) q2 = wz at *
                have d4 := KZ.out.cell
                have e4 := KZ.out.frozen
                have d5 := KN.out.cell
                have e5 := KN.out.frozen
                have n7 := grow7 wz w3.heap.size (.int .i64 9) (.int .i64 (1 + V)) (.slice A12 k c12) (.slice B12 k d12) (.int .i64 S) (.int .i64 0) (.bool true)
                have KL := Lib.hid (blk7 KZ.out (.int .i64 9) (.int .i64 (1 + V)) (.slice A12 k c12) (.slice B12 k d12) (.int .i64 S) (.int .i64 0) (.bool true))
                have ya : ∀ a, A12 = some a → a.block ≠ w3.heap.size := fun a ha => by have := (g12 a ha).1; omega
                have yb : ∀ a, B12 = some a → a.block ≠ w3.heap.size := fun a ha => by have := (j12 a ha).1; omega
                have RLL := Lib.hid (RLZ.out.grown n7 (fun a ha e => by have := RGL.out a ha; injection e; omega))
                have RSL := Lib.hid (RSZ.out.grown n7 (fun a ha e => by have := RGS.out a ha; injection e; omega))
                have HRL := Lib.hid (HRZ.out.grown n7 (fun a ha e => ya a ha (by injection e)))
                have HSL := Lib.hid (HSZ.out.grown n7 (fun a ha e => yb a ha (by injection e)))
                have BWL := Lib.hid (BWZ.out.trans (Grow.below n7 (by omega) (fun x hx => by injection hx; omega)))
                have gAL := Lib.hid ya
                have gBL := Lib.hid yb
                have zzy := n7.size
                have zLL : w3.heap.size < (((((((wz.setCell ⟨w3.heap.size, 0, none⟩ (.int .i64 9)).setCell ⟨w3.heap.size, 1, none⟩ (.int .i64 (1 + V))).setCell ⟨w3.heap.size, 2, none⟩ (.slice A12 k c12)).setCell ⟨w3.heap.size, 3, none⟩ (.slice B12 k d12)).setCell ⟨w3.heap.size, 4, none⟩ (.int .i64 S)).setCell ⟨w3.heap.size, 5, none⟩ (.int .i64 0)).setCell ⟨w3.heap.size, 6, none⟩ (.bool true)).heap.size := by omega
                clear KZ KN RLZ RSZ HRZ HSZ BWZ n7 ya yb
                go_wp2
                go_loopw [17, 29] (fun ev i wr => ∃ a : Nat, (a : Int) ≤ 1 + V ∧ i = .int .i64 a ∧ ev = .int .i64 0 ∧ ∃ Ax cx Bx dx ag fr ws, Hid ((a : Int) < 1 + V ∧ ag = (a : Int) ∧ fr = true ∧ ws = ls ∨ (a : Int) = 1 + V ∧ ag = 0 ∧ fr = false ∧ ws = ss) ∧
                  Hid (Blk wr w3.heap.size 24 (linkC 9 (1 + V) (.slice Ax k cx) (.slice Bx k dx) S ag fr)) ∧ Hid (Rd wr 1 Ax k (ints ss)) ∧ Hid (Rd wr 1 Bx k (ints ws)) ∧ Hid (∀ a, Ax = some a → a.block ≠ w3.heap.size) ∧ Hid (∀ a, Bx = some a → a.block ≠ w3.heap.size) ∧
                  Hid (Rd wr 1 LA k (ints ls)) ∧ Hid (Rd wr 1 SA k (ints ss)) ∧ Hid (Below w.heap.size w wr) ∧ w3.heap.size < wr.heap.size) (fun _ i _ => (1 + V).toNat - (intOf i).toNat)
                case atStart => exact ⟨0, by omega, rfl, rfl, A12, c12, B12, d12, 0, true, ls, .inl ⟨by omega, rfl, rfl, rfl⟩, KL, HRL, HSL, gAL, gBL, RLL, RSL, BWL, zLL⟩
                case round =>
                  clear KL HRL HSL gAL gBL RLL RSL BWL zLL
                  obtain ⟨a, ha, rfl, rfl, Ax, cx, Bx, dx, ag, fr, ws, hcs, KX, HRX, HSX, gAX, gBX, RLX, RSX, BWX, zX⟩ := hrel
                  have x4 := KX.out.cell
                  have y4 := KX.out.frozen
                  by_cases hlt3 : (a : Int) < 1 + V
                  · rcases hcs.out with ⟨_, rfl, rfl, rfl⟩ | ⟨hbad, _⟩
                    rotate_left
                    · omega
                    clear hcs
                    go_wp2_with fail
                    refine (equal_any Bx LA k k dx lc ws ws _ HSX.out RLX.out (by unfold maxLen; omega)).mono ?_
                    rintro e wa ⟨rfl, q2, rfl⟩
                    rw [show decide (ws = ws) = true from by simp]
                    have HT := Lib.hid (Tick_any 9 (1 + V) Ax k cx Bx k dx S (a : Int) true ss ws (wr.drewN q2) (HRX.out.drewN q2) (by omega) (HSX.out.drewN q2) (by omega) (by omega) (by omega))
                    go_wp2_with fail
                    refine HT.out.mono ?_
                    intro e wb hf
                    rw [E4.out _ (by omega) hlt3] at hf
                    have hbase : (wr.drewN q2).heap.size = wr.heap.size := rfl
                    have BD := Lib.hid (below_drewN (Below.refl wr.heap.size wr) q2)
                    by_cases hend : (a : Int) + 1 = 1 + V
                    · rw [if_pos hend] at hf
                      obtain ⟨Ay, cy, By, dy, rfl, hb, ry, sy, gy, jy⟩ := hf.rd
                      simp only [HLS.out] at ry sy ⊢
                      have zy := hb.size
                      have bb := BD.out.trans hb
                      have k7 := blk7 (KX.out.below bb) (.int .i64 9) (.int .i64 (1 + V)) (.slice Ay k cy) (.slice By k dy) (.int .i64 S) (.int .i64 0) (.bool false)
                      have n7 := grow7 wb w3.heap.size (.int .i64 9) (.int .i64 (1 + V)) (.slice Ay k cy) (.slice By k dy) (.int .i64 S) (.int .i64 0) (.bool false)
                      have ya : ∀ a, Ay = some a → a.block ≠ w3.heap.size := fun a ha => by have := (gy a ha).1; omega
                      have yb : ∀ a, By = some a → a.block ≠ w3.heap.size := fun a ha => by have := (jy a ha).1; omega
                      have RLY := Lib.hid ((RLX.out.below bb).grown n7 (fun a ha e => by have := RGL.out a ha; injection e; omega))
                      have RSY := Lib.hid ((RSX.out.below bb).grown n7 (fun a ha e => by have := RGS.out a ha; injection e; omega))
                      have HRY := Lib.hid (ry.grown n7 (fun a ha e => ya a ha (by injection e)))
                      have HSY := Lib.hid (sy.grown n7 (fun a ha e => yb a ha (by injection e)))
                      have BWY := Lib.hid ((BWX.out.trans (bb.mono (by omega))).trans (Grow.below n7 (by omega) (fun x hx => by injection hx; omega)))
                      have zzy := n7.size
                      have x5 := (KX.out.below bb).cell
                      have y5 := (KX.out.below bb).frozen
                      have KY := Lib.hid k7
                      have YA := Lib.hid ya
                      have YB := Lib.hid yb
                      clear x4 y4 hf hb bb k7 n7 ry sy ya yb HT
                      go_wp2
                      go_roundw
                      case rel => exact ⟨a + 1, by omega, by go_num, rfl, Ay, cy, By, dy, 0, false, ss, .inr ⟨by omega, rfl, rfl, rfl⟩, KY, HRY, HSY, YA, YB, RLY, RSY, BWY, by omega⟩
                      case measure => simp [intOf]; omega
                    · rw [if_neg hend] at hf
                      obtain ⟨Ay, cy, By, dy, rfl, hb, ry, sy, gy, jy⟩ := hf.rd
                      simp only [HLS.out, HLL.out] at ry sy ⊢
                      have zy := hb.size
                      have bb := BD.out.trans hb
                      have k7 := blk7 (KX.out.below bb) (.int .i64 9) (.int .i64 (1 + V)) (.slice Ay k cy) (.slice By k dy) (.int .i64 S) (.int .i64 ((a : Int) + 1)) (.bool true)
                      have n7 := grow7 wb w3.heap.size (.int .i64 9) (.int .i64 (1 + V)) (.slice Ay k cy) (.slice By k dy) (.int .i64 S) (.int .i64 ((a : Int) + 1)) (.bool true)
                      have ya : ∀ a, Ay = some a → a.block ≠ w3.heap.size := fun a ha => by have := (gy a ha).1; omega
                      have yb : ∀ a, By = some a → a.block ≠ w3.heap.size := fun a ha => by have := (jy a ha).1; omega
                      have RLY := Lib.hid ((RLX.out.below bb).grown n7 (fun a ha e => by have := RGL.out a ha; injection e; omega))
                      have RSY := Lib.hid ((RSX.out.below bb).grown n7 (fun a ha e => by have := RGS.out a ha; injection e; omega))
                      have HRY := Lib.hid (ry.grown n7 (fun a ha e => ya a ha (by injection e)))
                      have HSY := Lib.hid (sy.grown n7 (fun a ha e => yb a ha (by injection e)))
                      have BWY := Lib.hid ((BWX.out.trans (bb.mono (by omega))).trans (Grow.below n7 (by omega) (fun x hx => by injection hx; omega)))
                      have zzy := n7.size
                      have x5 := (KX.out.below bb).cell
                      have y5 := (KX.out.below bb).frozen
                      have KY := Lib.hid k7
                      have YA := Lib.hid ya
                      have YB := Lib.hid yb
                      clear x4 y4 hf hb bb k7 n7 ry sy ya yb HT
                      go_wp2
                      go_roundw
                      case rel => exact ⟨a + 1, by omega, by go_num, rfl, Ay, cy, By, dy, (a : Int) + 1, true, ws, .inl ⟨by omega, by omega, rfl, rfl⟩, KY, HRY, HSY, YA, YB, RLY, RSY, BWY, by omega⟩
                      case measure => simp [intOf]; omega
                  · rcases hcs.out with ⟨hbad, _⟩ | ⟨_, rfl, rfl, rfl⟩
                    · omega
                    clear hcs
                    go_wp2_with fail
                    refine (equal_any Bx SA k k dx sc ws ws _ HSX.out RSX.out (by unfold maxLen; omega)).mono ?_
                    rintro e wa ⟨rfl, q2, rfl⟩
                    rw [show decide (ws = ws) = true from by simp]
                    go_wp2
                    go_ret
                    exact ⟨rfl, below_drewN BWX.out _⟩
              · go_wp2_with fail
                refine (Take_any 9 (1 + V) A6 k c6 B6 k d6 S 0 true ss ls (some ⟨gb, 0, none⟩) (5 + 2 * k) c9 cs we HR10.out (by omega) HS10.out (by omega) (by omega) (by omega) RB10.out hs91 (by omega) hs92).mono ?_
                intro e wt hf
                rw [HRF.out] at hf
                obtain ⟨A12, c12, B12, d12, rfl, hb12, r12, s12, g12, j12⟩ := hf.rd
                simp only [HLS.out, HLL.out] at r12 s12 ⊢
                have z12 := hb12.size
                have KT := Lib.hid (K10.out.below hb12)
                have RLT := Lib.hid (RL10.out.below hb12)
                have RST := Lib.hid (RS10.out.below hb12)
                have HRT := Lib.hid r12
                have HST := Lib.hid s12
                have BWT := Lib.hid (BW10.out.trans (hb12.mono (by omega)))
                clear d4 e4 hf hb12 r12 s12 K10 RL10 RS10 HR10 HS10 BW10 RB10
                have d4 := KT.out.cell
                have e4 := KT.out.frozen
                have zt1 : w3.heap.size < wt.heap.size := by omega
                go_wp2_with fail
                refine (equal_any B12 LA k k d12 lc ls ls _ (HST.out.alloc _) (RLT.out.alloc _) (by unfold maxLen; omega)).mono ?_
                rintro e wu ⟨rfl, q2, rfl⟩
                rw [show decide (ls = ls) = true from by simp]
                have KZ := Lib.hid ((KT.out.alloc (.cells (linkC 9 (1 + V) (.slice A12 k c12) (.slice B12 k d12) S 0 true) 24)).drewN q2)
                have KN := Lib.hid ((Blk.new wt 24 (linkC 9 (1 + V) (.slice A12 k c12) (.slice B12 k d12) S 0 true)).drewN q2)
                have RLZ := Lib.hid ((RLT.out.alloc (.cells (linkC 9 (1 + V) (.slice A12 k c12) (.slice B12 k d12) S 0 true) 24)).drewN q2)
                have RSZ := Lib.hid ((RST.out.alloc (.cells (linkC 9 (1 + V) (.slice A12 k c12) (.slice B12 k d12) S 0 true) 24)).drewN q2)
                have HRZ := Lib.hid ((HRT.out.alloc (.cells (linkC 9 (1 + V) (.slice A12 k c12) (.slice B12 k d12) S 0 true) 24)).drewN q2)
                have HSZ := Lib.hid ((HST.out.alloc (.cells (linkC 9 (1 + V) (.slice A12 k c12) (.slice B12 k d12) S 0 true) 24)).drewN q2)
                have BWZ := Lib.hid (below_drewN (BWT.out.alloc (by omega) (.cells (linkC 9 (1 + V) (.slice A12 k c12) (.slice B12 k d12) S 0 true) 24)) q2)
                have zz0 : ((wt.alloc (.cells (linkC 9 (1 + V) (.slice A12 k c12) (.slice B12 k d12) S 0 true) 24)).drewN q2).heap.size = wt.heap.size + 1 := by rw [size_drewN]; simp
                clear KT RLT RST HRT HST BWT d4 e4
                generalize World.drewN (World.alloc wt _) q2 = wz at *
                have d4 := KZ.out.cell
                have e4 := KZ.out.frozen
                have d5 := KN.out.cell
                have e5 := KN.out.frozen
                have n7 := grow7 wz w3.heap.size (.int .i64 9) (.int .i64 (1 + V)) (.slice A12 k c12) (.slice B12 k d12) (.int .i64 S) (.int .i64 0) (.bool true)
                have KL := Lib.hid (blk7 KZ.out (.int .i64 9) (.int .i64 (1 + V)) (.slice A12 k c12) (.slice B12 k d12) (.int .i64 S) (.int .i64 0) (.bool true))
                have ya : ∀ a, A12 = some a → a.block ≠ w3.heap.size := fun a ha => by have := (g12 a ha).1; omega
                have yb : ∀ a, B12 = some a → a.block ≠ w3.heap.size := fun a ha => by have := (j12 a ha).1; omega
                have RLL := Lib.hid (RLZ.out.grown n7 (fun a ha e => by have := RGL.out a ha; injection e; omega))
                have RSL := Lib.hid (RSZ.out.grown n7 (fun a ha e => by have := RGS.out a ha; injection e; omega))
                have HRL := Lib.hid (HRZ.out.grown n7 (fun a ha e => ya a ha (by injection e)))
                have HSL := Lib.hid (HSZ.out.grown n7 (fun a ha e => yb a ha (by injection e)))
                have BWL := Lib.hid (BWZ.out.trans (Grow.below n7 (by omega) (fun x hx => by injection hx; omega)))
                have gAL := Lib.hid ya
                have gBL := Lib.hid yb
                have zzy := n7.size
                have zLL : w3.heap.size < (((((((wz.setCell ⟨w3.heap.size, 0, none⟩ (.int .i64 9)).setCell ⟨w3.heap.size, 1, none⟩ (.int .i64 (1 + V))).setCell ⟨w3.heap.size, 2, none⟩ (.slice A12 k c12)).setCell ⟨w3.heap.size, 3, none⟩ (.slice B12 k d12)).setCell ⟨w3.heap.size, 4, none⟩ (.int .i64 S)).setCell ⟨w3.heap.size, 5, none⟩ (.int .i64 0)).setCell ⟨w3.heap.size, 6, none⟩ (.bool true)).heap.size := by omega
                clear KZ KN RLZ RSZ HRZ HSZ BWZ n7 ya yb
                go_wp2
                go_loopw [17, 29] (fun ev i wr => ∃ a : Nat, (a : Int) ≤ 1 + V ∧ i = .int .i64 a ∧ ev = .int .i64 0 ∧ ∃ Ax cx Bx dx ag fr ws, Hid ((a : Int) < 1 + V ∧ ag = (a : Int) ∧ fr = true ∧ ws = ls ∨ (a : Int) = 1 + V ∧ ag = 0 ∧ fr = false ∧ ws = ss) ∧
                  Hid (Blk wr w3.heap.size 24 (linkC 9 (1 + V) (.slice Ax k cx) (.slice Bx k dx) S ag fr)) ∧ Hid (Rd wr 1 Ax k (ints ss)) ∧ Hid (Rd wr 1 Bx k (ints ws)) ∧ Hid (∀ a, Ax = some a → a.block ≠ w3.heap.size) ∧ Hid (∀ a, Bx = some a → a.block ≠ w3.heap.size) ∧
                  Hid (Rd wr 1 LA k (ints ls)) ∧ Hid (Rd wr 1 SA k (ints ss)) ∧ Hid (Below w.heap.size w wr) ∧ w3.heap.size < wr.heap.size) (fun _ i _ => (1 + V).toNat - (intOf i).toNat)
                case atStart => exact ⟨0, by omega, rfl, rfl, A12, c12, B12, d12, 0, true, ls, .inl ⟨by omega, rfl, rfl, rfl⟩, KL, HRL, HSL, gAL, gBL, RLL, RSL, BWL, zLL⟩
                case round =>
                  clear KL HRL HSL gAL gBL RLL RSL BWL zLL
                  obtain ⟨a, ha, rfl, rfl, Ax, cx, Bx, dx, ag, fr, ws, hcs, KX, HRX, HSX, gAX, gBX, RLX, RSX, BWX, zX⟩ := hrel
                  have x4 := KX.out.cell
                  have y4 := KX.out.frozen
                  by_cases hlt3 : (a : Int) < 1 + V
                  · rcases hcs.out with ⟨_, rfl, rfl, rfl⟩ | ⟨hbad, _⟩
                    rotate_left
                    · omega
                    clear hcs
                    go_wp2_with fail
                    refine (equal_any Bx LA k k dx lc ws ws _ HSX.out RLX.out (by unfold maxLen; omega)).mono ?_
                    rintro e wa ⟨rfl, q2, rfl⟩
                    rw [show decide (ws = ws) = true from by simp]
                    have HT := Lib.hid (Tick_any 9 (1 + V) Ax k cx Bx k dx S (a : Int) true ss ws (wr.drewN q2) (HRX.out.drewN q2) (by omega) (HSX.out.drewN q2) (by omega) (by omega) (by omega))
                    go_wp2_with fail
                    refine HT.out.mono ?_
                    intro e wb hf
                    rw [E4.out _ (by omega) hlt3] at hf
                    have hbase : (wr.drewN q2).heap.size = wr.heap.size := rfl
                    have BD := Lib.hid (below_drewN (Below.refl wr.heap.size wr) q2)
                    by_cases hend : (a : Int) + 1 = 1 + V
                    · rw [if_pos hend] at hf
                      obtain ⟨Ay, cy, By, dy, rfl, hb, ry, sy, gy, jy⟩ := hf.rd
                      simp only [HLS.out] at ry sy ⊢
                      have zy := hb.size
                      have bb := BD.out.trans hb
                      have k7 := blk7 (KX.out.below bb) (.int .i64 9) (.int .i64 (1 + V)) (.slice Ay k cy) (.slice By k dy) (.int .i64 S) (.int .i64 0) (.bool false)
                      have n7 := grow7 wb w3.heap.size (.int .i64 9) (.int .i64 (1 + V)) (.slice Ay k cy) (.slice By k dy) (.int .i64 S) (.int .i64 0) (.bool false)
                      have ya : ∀ a, Ay = some a → a.block ≠ w3.heap.size := fun a ha => by have := (gy a ha).1; omega
                      have yb : ∀ a, By = some a → a.block ≠ w3.heap.size := fun a ha => by have := (jy a ha).1; omega
                      have RLY := Lib.hid ((RLX.out.below bb).grown n7 (fun a ha e => by have := RGL.out a ha; injection e; omega))
                      have RSY := Lib.hid ((RSX.out.below bb).grown n7 (fun a ha e => by have := RGS.out a ha; injection e; omega))
                      have HRY := Lib.hid (ry.grown n7 (fun a ha e => ya a ha (by injection e)))
                      have HSY := Lib.hid (sy.grown n7 (fun a ha e => yb a ha (by injection e)))
                      have BWY := Lib.hid ((BWX.out.trans (bb.mono (by omega))).trans (Grow.below n7 (by omega) (fun x hx => by injection hx; omega)))
                      have zzy := n7.size
                      have x5 := (KX.out.below bb).cell
                      have y5 := (KX.out.below bb).frozen
                      have KY := Lib.hid k7
                      have YA := Lib.hid ya
                      have YB := Lib.hid yb
                      clear x4 y4 hf hb bb k7 n7 ry sy ya yb HT
                      go_wp2
                      go_roundw
                      case rel => exact ⟨a + 1, by omega, by go_num, rfl, Ay, cy, By, dy, 0, false, ss, .inr ⟨by omega, rfl, rfl, rfl⟩, KY, HRY, HSY, YA, YB, RLY, RSY, BWY, by omega⟩
                      case measure => simp [intOf]; omega
                    · rw [if_neg hend] at hf
                      obtain ⟨Ay, cy, By, dy, rfl, hb, ry, sy, gy, jy⟩ := hf.rd
                      simp only [HLS.out, HLL.out] at ry sy ⊢
                      have zy := hb.size
                      have bb := BD.out.trans hb
                      have k7 := blk7 (KX.out.below bb) (.int .i64 9) (.int .i64 (1 + V)) (.slice Ay k cy) (.slice By k dy) (.int .i64 S) (.int .i64 ((a : Int) + 1)) (.bool true)
                      have n7 := grow7 wb w3.heap.size (.int .i64 9) (.int .i64 (1 + V)) (.slice Ay k cy) (.slice By k dy) (.int .i64 S) (.int .i64 ((a : Int) + 1)) (.bool true)
                      have ya : ∀ a, Ay = some a → a.block ≠ w3.heap.size := fun a ha => by have := (gy a ha).1; omega
                      have yb : ∀ a, By = some a → a.block ≠ w3.heap.size := fun a ha => by have := (jy a ha).1; omega
                      have RLY := Lib.hid ((RLX.out.below bb).grown n7 (fun a ha e => by have := RGL.out a ha; injection e; omega))
                      have RSY := Lib.hid ((RSX.out.below bb).grown n7 (fun a ha e => by have := RGS.out a ha; injection e; omega))
                      have HRY := Lib.hid (ry.grown n7 (fun a ha e => ya a ha (by injection e)))
                      have HSY := Lib.hid (sy.grown n7 (fun a ha e => yb a ha (by injection e)))
                      have BWY := Lib.hid ((BWX.out.trans (bb.mono (by omega))).trans (Grow.below n7 (by omega) (fun x hx => by injection hx; omega)))
                      have zzy := n7.size
                      have x5 := (KX.out.below bb).cell
                      have y5 := (KX.out.below bb).frozen
                      have KY := Lib.hid k7
                      have YA := Lib.hid ya
                      have YB := Lib.hid yb
                      clear x4 y4 hf hb bb k7 n7 ry sy ya yb HT
                      go_wp2
                      go_roundw
                      case rel => exact ⟨a + 1, by omega, by go_num, rfl, Ay, cy, By, dy, (a : Int) + 1, true, ws, .inl ⟨by omega, by omega, rfl, rfl⟩, KY, HRY, HSY, YA, YB, RLY, RSY, BWY, by omega⟩
                      case measure => simp [intOf]; omega
                  · rcases hcs.out with ⟨hbad, _⟩ | ⟨_, rfl, rfl, rfl⟩
                    · omega
                    clear hcs
                    go_wp2_with fail
                    refine (equal_any Bx SA k k dx sc ws ws _ HSX.out RSX.out (by unfold maxLen; omega)).mono ?_
                    rintro e wa ⟨rfl, q2, rfl⟩
                    rw [show decide (ws = ws) = true from by simp]
                    go_wp2
                    go_ret
                    exact ⟨rfl, below_drewN BWX.out _⟩
end Go.Proofs.Ytdncdmibmopilaa.Bus
