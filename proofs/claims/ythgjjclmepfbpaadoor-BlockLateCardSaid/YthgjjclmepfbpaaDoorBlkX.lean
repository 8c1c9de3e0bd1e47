/-
  The walk of the law BlockLate. Conditions: the arguments read; the variable that holds the length of the library's longest quick search reads.
-/
import Derived.Test.YthgjjclmepfbpaaDoorBlkW
import Derived.Test.YthgjjclmepfbpaaDoorBlkU
import Derived.Test.YthgjjclmepfbpaaDoorRecs
namespace Go.Proofs.YthgjjclmepfbpaaDoor.Blk
open Go.RowKit Go.Proofs.YthgjjclmepfbpaaDoor.W Go.Proofs.YthgjjclmepfbpaaDoor.Ints Go.Proofs.YthgjjclmepfbpaaDoor.Cell Go.Proofs.YthgjjclmepfbpaaDoor.Num

theorem and_32 (n : Int) : bits .and .i64 n 4294967295 = n % 4294967296 := by
  show IntKind.i64.wrap ((BitVec.ofInt 64 n &&& BitVec.ofInt 64 4294967295).toNat : Int) = _
  have h : (BitVec.ofInt 64 n &&& BitVec.ofInt 64 4294967295).toNat = (BitVec.ofInt 64 n).toNat % 4294967296 := by
    rw [BitVec.toNat_and]
    exact Nat.and_two_pow_sub_one_eq_mod _ 32
  rw [h, wrap_i64_nat _ (by omega), BitVec.toNat_ofInt]
  omega
theorem and_16 (n : Int) : bits .and .i64 n 65535 = n % 65536 := by
  show IntKind.i64.wrap ((BitVec.ofInt 64 n &&& BitVec.ofInt 64 65535).toNat : Int) = _
  have h : (BitVec.ofInt 64 n &&& BitVec.ofInt 64 65535).toNat = (BitVec.ofInt 64 n).toNat % 65536 := by
    rw [BitVec.toNat_and]
    exact Nat.and_two_pow_sub_one_eq_mod _ 16
  rw [h, wrap_i64_nat _ (by omega), BitVec.toNat_ofInt]
  omega
/-- a wait: is the input on, and for how long -/
structure WT where
  on : Bool
  len : Int
def WT.cs (x : WT) : List Value := [.bool x.on, .int .i64 x.len]
theorem WT.size (x : WT) : x.cs.length = 2 := rfl
def wtV (l : List WT) : List Value := l.flatMap WT.cs
theorem wt_at {w : World} {A : Option Addr} {n : Nat} {l : List WT} (h : Rd w 2 A n (wtV l)) {k : Nat} (hk : k < n) :
    ∃ b o x, A = some ⟨b, o, none⟩ ∧ l[k]? = some x ∧ b < w.heap.size ∧ w.cell? ⟨b, o + k * 2, none⟩ = some (.bool x.on) ∧ w.cell? ⟨b, o + k * 2 + 1, none⟩ = some (.int .i64 x.len) := by
  have hl := Rd.rec_len WT.size (by omega) h
  obtain ⟨b, o, e, hc⟩ := Rd.rec WT.size h (by omega)
  have ht : l[k]? = some l[k] := List.getElem?_eq_getElem (by omega)
  have c := hc k _ ht
  have c0 := c 0 _ rfl
  refine ⟨b, o, l[k], e, ht, lt_of_cell c0, c0, ?_⟩
  rw [Nat.add_assoc]
  exact c 1 _ rfl

theorem make_four (w : World) : Sem.run Tryd.prog (Instr.makeSlice 31 (.int .i64 4) (.int .i64 4)) w = .ok (.slice (some ⟨w.heap.size, 0, none⟩) 4 4) (w.alloc (.cells #[.int .i64 0, .int .i64 0, .int .i64 0, .int .i64 0] 3)) := by
  have h := make_any 4 (by decide) w
  rw [show noughts 4 = #[.int .i64 0, .int .i64 0, .int .i64 0, .int .i64 0] from Array.ext' (by rw [noughts_list]; rfl)] at h
  exact h
def hiF (on : Bool) (high : Int) : Int := if on = true then (if high < 0 then 0 else high) else -1
def loF (on : Bool) (low : Int) : Int := if on = true then -1 else (if low < 0 then 0 else low)
def ltF (on late : Bool) (high P : Int) : Bool := if on = true then (late || decide (P ≤ hiF on high)) else false
def heF (on held : Bool) (low P : Int) : Bool := if on = true then true else (held && decide (loF on low < P))
def adv (h s : Int) : Int := if 0 ≤ h then h + s else h
theorem bit_01' (b : Bool) : bit b = 0 ∨ bit b = 1 := by cases b <;> simp [bit]
theorem on_tick {now high : Int} {late on : Bool} {a b c d P : Int} (h : OnI now high late a b c d) (hp : 0 ≤ P) (hp' : P ≤ 4294967295) :
    (tonS a b c d (bit on) P (now % 4294967296)).q = bit (ltF on late high P) ∧ ∀ s, 0 ≤ s → hiF on high + s ≤ 4294967295 → OnI (now + s) (adv (hiF on high) s) (ltF on late high P) (tonS a b c d (bit on) P (now % 4294967296)).a (tonS a b c d (bit on) P (now % 4294967296)).b (tonS a b c d (bit on) P (now % 4294967296)).c (tonS a b c d (bit on) P (now % 4294967296)).d := by
  cases on
  · have h1 := on_off now high late a b c d P
    exact ⟨h1.1, fun s _ _ => h1.2 _⟩
  · have h1 := on_on h hp hp' (high1 := hiF true high) rfl (late1 := ltF true late high P) rfl
    refine ⟨h1.1, fun s s0 s1 => ?_⟩
    have e : adv (hiF true high) s = hiF true high + s := if_pos (by unfold hiF; rw [if_pos rfl]; split <;> omega)
    rw [e]
    exact h1.2 s s0 s1
theorem off_tick {now low : Int} {held on : Bool} {a b c d P : Int} (h : OffI now low held a b c d) (hp : 0 ≤ P) (hp' : P ≤ 4294967295) :
    (tofS a b c d (bit on) P (now % 4294967296)).q = bit (heF on held low P) ∧ ∀ s, 0 ≤ s → loF on low + s ≤ 4294967295 → OffI (now + s) (adv (loF on low) s) (heF on held low P) (tofS a b c d (bit on) P (now % 4294967296)).a (tofS a b c d (bit on) P (now % 4294967296)).b (tofS a b c d (bit on) P (now % 4294967296)).c (tofS a b c d (bit on) P (now % 4294967296)).d := by
  cases on
  · have h1 := off_off h hp hp' (low1 := loF false low) rfl (held1 := heF false held low P) rfl
    refine ⟨h1.1, fun s s0 s1 => ?_⟩
    have e : adv (loF false low) s = loF false low + s := if_pos (by unfold loF; rw [if_neg (by decide)]; split <;> omega)
    rw [e]
    exact h1.2 s s0 s1
  · have h1 := off_on a b c d P now
    exact ⟨h1.1, fun s _ _ => h1.2 _⟩

theorem w5_id (x : Int) (h : 0 ≤ x) (h' : x ≤ 4294967295) : wrapF 5 x = x := by rw [wrap5]; omega
theorem tonF_id (a b c d x P now : Int) (ha : a = 0 ∨ a = 1) (hb : 0 ≤ b ∧ b ≤ 4294967295) (hc : c = 0 ∨ c = 1) (hd : 0 ≤ d ∧ d ≤ 4294967295) (hx : x = 0 ∨ x = 1) (hp : 0 ≤ P ∧ P ≤ 4294967295) :
    tonF [a, b, c, d] [x, P] now = ([(tonS a b c d x P (now % 4294967296)).a, (tonS a b c d x P (now % 4294967296)).b, (tonS a b c d x P (now % 4294967296)).c, (tonS a b c d x P (now % 4294967296)).d], [(tonS a b c d x P (now % 4294967296)).q, (tonS a b c d x P (now % 4294967296)).e]) := by
  unfold tonF
  rw [ton_st, ton_ins]
  simp only [fitF, rawF, List.length_cons, List.length_nil, if_pos, List.zipWith_cons_cons, List.zipWith_nil_left, w1_id _ ha, w5_id _ hb.1 hb.2, w1_id _ hc, w5_id _ hd.1 hd.2, w1_id _ hx, w5_id _ hp.1 hp.2, wrap5 now]
theorem tofF_id (a b c d x P now : Int) (ha : a = 0 ∨ a = 1) (hb : 0 ≤ b ∧ b ≤ 4294967295) (hc : c = 0 ∨ c = 1) (hd : 0 ≤ d ∧ d ≤ 4294967295) (hx : x = 0 ∨ x = 1) (hp : 0 ≤ P ∧ P ≤ 4294967295) :
    tofF [a, b, c, d] [x, P] now = ([(tofS a b c d x P (now % 4294967296)).a, (tofS a b c d x P (now % 4294967296)).b, (tofS a b c d x P (now % 4294967296)).c, (tofS a b c d x P (now % 4294967296)).d], [(tofS a b c d x P (now % 4294967296)).q, (tofS a b c d x P (now % 4294967296)).e]) := by
  unfold tofF
  rw [tof_st, tof_ins]
  simp only [fitF, rawF, List.length_cons, List.length_nil, if_pos, List.zipWith_cons_cons, List.zipWith_nil_left, w1_id _ ha, w5_id _ hb.1 hb.2, w1_id _ hc, w5_id _ hd.1 hd.2, w1_id _ hx, w5_id _ hp.1 hp.2, wrap5 now]
theorem OnI.ranges {now high : Int} {late : Bool} {a b c d : Int} (h : OnI now high late a b c d) : (a = 0 ∨ a = 1) ∧ (0 ≤ b ∧ b ≤ 4294967295) ∧ (c = 0 ∨ c = 1) ∧ (0 ≤ d ∧ d ≤ 4294967295) := by
  obtain ⟨hd, rfl, h⟩ := h
  refine ⟨?_, ?_, bit_01' _, hd⟩
  · rcases h with ⟨_, e, _, _⟩ | ⟨_, _, e, _⟩
    · exact .inl e
    · exact .inr e
  · rcases h with ⟨_, _, e, _⟩ | ⟨_, _, _, e⟩
    · omega
    · omega
theorem OffI.ranges {now low : Int} {held : Bool} {a b c d : Int} (h : OffI now low held a b c d) : (a = 0 ∨ a = 1) ∧ (0 ≤ b ∧ b ≤ 4294967295) ∧ (c = 0 ∨ c = 1) ∧ (0 ≤ d ∧ d ≤ 4294967295) := by
  obtain ⟨hd, rfl, ha, hb, h⟩ := h
  exact ⟨ha, hb, bit_01' _, hd⟩
set_option maxRecDepth 100000 in
set_option maxHeartbeats 12800000 in
theorem late_law (pt bg : Int) (A : Option Addr) (N c : Nat) (xs : List WT) (w : World) (m : Int) (hm : w.cell? ⟨0, 0, none⟩ = some (.int .i64 m)) (hr : Rd w 2 A N (wtV xs)) (hx : ∀ x ∈ xs, I64 x.len) (hp : I64 pt) (hb : I64 bg) (_hN : N * 8 ≤ 140737488351232) :
    Calls Tryd.prog 6 #[.int .i64 pt, .int .i64 bg, .slice A N c] w fun e w' => e = .returned (.bool true) ∧ Below w.heap.size w w' := by
  have HR := Lib.hid hr
  have HX := Lib.hid hx
  have HM := Lib.hid (And.intro hm (lt_of_cell hm))
  clear hr hx hm
  obtain ⟨p1, p2⟩ := hp
  obtain ⟨b1, b2⟩ := hb
  go_enter Tryd.func6, Tryd.ntmps6
  go_upto_region 1 with fail
  go_cut [26] from 21 to 26 (fun v wz => v = .bool (decide (pt < 0) || decide (4294967295 < pt)) ∧ w = wz)
  case first =>
    cases t1 : decide (pt < 0)
    · cases t2 : decide (4294967295 < pt)
      · go_wp2
        go_meet
        exact ⟨by rw [t1, t2]; rfl, rfl⟩
      · go_wp2
        go_meet
        exact ⟨by rw [t1, t2]; rfl, rfl⟩
    · go_wp2
      go_meet
      exact ⟨by rw [t1]; rfl, rfl⟩
  case rest =>
    obtain ⟨rfl, rfl⟩ := hcut
    go_upto_if 26 with fail
    go_cut [0] from 21 to 26 (fun v wz => ∃ P : Int, v = .int .i64 P ∧ (0 ≤ P ∧ P ≤ 4294967295) ∧ w = wz)
    case first =>
      cases t1 : (decide (pt < 0) || decide (4294967295 < pt))
      · go_wp2
        go_meet
        refine ⟨pt, rfl, ?_, rfl⟩
        simp at t1
        omega
      · go_wp2
        go_meet
        exact ⟨100, rfl, by omega, rfl⟩
    case rest =>
      obtain ⟨P, rfl, ⟨hP1, hP2⟩, hww⟩ := hcut
      subst hww
      clear p1 p2
      go_upto_region 3 with fail
      have M0 : Hid (Rd (((w.alloc (.cells #[.int .i64 0, .int .i64 0, .int .i64 0, .int .i64 0] 3)).alloc (.cells #[.int .i64 0, .int .i64 0, .int .i64 0, .int .i64 0] 3)).drew) 1 (some ⟨w.heap.size, 0, none⟩) 4 (ints [0, 0, 0, 0]) ∧ Rd (((w.alloc (.cells #[.int .i64 0, .int .i64 0, .int .i64 0, .int .i64 0] 3)).alloc (.cells #[.int .i64 0, .int .i64 0, .int .i64 0, .int .i64 0] 3)).drew) 1 (some ⟨w.heap.size + 1, 0, none⟩) 4 (ints [0, 0, 0, 0]) ∧ Below w.heap.size w (((w.alloc (.cells #[.int .i64 0, .int .i64 0, .int .i64 0, .int .i64 0] 3)).alloc (.cells #[.int .i64 0, .int .i64 0, .int .i64 0, .int .i64 0] 3)).drew)) := by
        have M := (((Mem.start w).alloc 3 #[.int .i64 0, .int .i64 0, .int .i64 0, .int .i64 0]).alloc 3 #[.int .i64 0, .int .i64 0, .int .i64 0, .int .i64 0]).drew
        have M1 := M.asRow (sz := 1) (n := 4) (xs := ints [0, 0, 0, 0]) rfl rfl (by decide)
        have M2 := M1.asRow (sz := 1) (n := 4) (xs := ints [0, 0, 0, 0]) rfl rfl (by decide)
        refine Lib.hid ⟨M2.rdO 0 rfl, ?_, M2.bel⟩
        have := M2.rdO 1 rfl
        rw [World.size_alloc] at this
        exact this
      go_cut [7, 8] from 27 to 28 (fun v7 v8 wz => ∃ (g1 g2 : Nat), v7 = .slice (some ⟨g1, 0, none⟩) 4 4 ∧ v8 = .slice (some ⟨g2, 0, none⟩) 4 4 ∧ Hid (Rd wz 1 (some ⟨g1, 0, none⟩) 4 (ints [0, 0, 0, 0]) ∧ Rd wz 1 (some ⟨g2, 0, none⟩) 4 (ints [0, 0, 0, 0]) ∧ Below w.heap.size w wz))
      case first =>
        have mk := make_four
        go_region
        all_goals go_wp2
        all_goals go_meet
        all_goals first
          | exact ⟨_, _, rfl, rfl, M0⟩
          | exact ⟨_, _, rfl, rfl, Lib.hid ⟨M0.out.2.1, M0.out.1, M0.out.2.2⟩⟩
      case rest =>
        obtain ⟨g1, g2, rfl, rfl, R0⟩ := hcut
        clear M0
        have en := and_32 bg
        obtain ⟨now0, hn0⟩ : ∃ v, bits .and .i64 bg 4294967295 = v := ⟨_, rfl⟩
        have hn1 : 0 ≤ now0 ∧ now0 ≤ 4294967295 := by rw [← hn0, en]; omega
        clear en
        obtain ⟨w1, hw1⟩ : ∃ w1 : World, w1 = wc := ⟨_, rfl⟩
        subst hw1
        go_wp2
        go_loopw [7, 8, 9, 10, 11, 12, 13, 14] (fun v7 v8 v9 v10 v11 v12 v13 v14 wr => ∃ (k g1 c1 g2 c2 : Nat) (now high low : Int) (late held : Bool) (a b c d a' b' c' d' : Int), (k ≤ N ∧ k ≤ 60000) ∧ v7 = .slice (some ⟨g1, 0, none⟩) 4 c1 ∧ v8 = .slice (some ⟨g2, 0, none⟩) 4 c2 ∧ v9 = .int .i64 now ∧ v10 = .int .i64 high ∧ v11 = .int .i64 low ∧ v12 = .bool late ∧ v13 = .bool held ∧ v14 = .int .i64 k ∧ (0 ≤ now ∧ now ≤ 4294967295 + (k : Int) * 65535) ∧ (-1 ≤ high ∧ high ≤ (k : Int) * 65535) ∧ (-1 ≤ low ∧ low ≤ (k : Int) * 65535) ∧ Hid (OnI now high late a b c d ∧ OffI now low held a' b' c' d') ∧ Hid (Rd wr 1 (some ⟨g1, 0, none⟩) 4 (ints [a, b, c, d]) ∧ Rd wr 1 (some ⟨g2, 0, none⟩) 4 (ints [a', b', c', d']) ∧ Below w.heap.size w wr)) (fun _ _ _ _ _ _ _ v14 _ => N - (intOf v14).toNat)
        case atStart => exact ⟨0, g1, 4, g2, 4, now0, -1, -1, false, false, 0, 0, 0, 0, 0, 0, 0, 0, ⟨Nat.zero_le _, by omega⟩, rfl, rfl, by first | rfl | rw [hn0], rfl, rfl, rfl, rfl, rfl, ⟨hn1.1, by omega⟩, by omega, by omega, Lib.hid ⟨⟨by omega, rfl, .inl ⟨by decide, rfl, rfl, rfl⟩⟩, ⟨by omega, rfl, .inl rfl, by omega, fun h => by cases h⟩⟩, R0⟩
        case round =>
          clear R0 hn0 hn1 b1 b2
          obtain ⟨k, g1, c1, g2, c2, now, high, low, late, held, a, b, c, d, a', b', c', d', ⟨hk, hk6⟩, rfl, rfl, rfl, rfl, rfl, rfl, rfl, rfl, ⟨w1', w2'⟩, ⟨h1, h2⟩, ⟨l1, l2⟩, TI, RS⟩ := hrel
          by_cases hlt : k < N
          · by_cases hl6 : k < 60000
            · obtain ⟨b0, o0, x, rfl, hxk, _, x0, x1⟩ := wt_at (HR.out.below RS.out.2.2) hlt
              have hxl := HX.out x (List.mem_of_getElem? hxk)
              obtain ⟨on, len⟩ := x
              dsimp only at x0 x1 hxl
              clear hxk
              have hk0 : (0 : Int) ≤ (k : Int) := by omega
              have hkn : (k : Int) < (N : Int) := by omega
              have hk7 : (k : Int) < 60000 := by omega
              go_upto_if 45 with fail
              go_cut [10, 11, 12, 13, 15] from 46 to 61 (fun v10 v11 v12 v13 v15 wz => v10 = .int .i64 (hiF on high) ∧ v11 = .int .i64 (loF on low) ∧ v12 = .bool (ltF on late high P) ∧ v13 = .bool (heF on held low P) ∧ v15 = .int .i64 (bit on) ∧ wr = wz)
              case first =>
                cases on
                · by_cases hh : low < 0
                  · cases held
                    · go_wp2
                      go_meet
                      exact ⟨rfl, by simp [loF, hh], rfl, rfl, rfl, rfl⟩
                    · go_wp2
                      go_meet
                      exact ⟨rfl, by simp [loF, hh], rfl, by simp [heF, loF, hh], rfl, rfl⟩
                  · cases held
                    · go_wp2
                      go_meet
                      exact ⟨rfl, by simp [loF, show ¬ low < 0 by omega], rfl, rfl, rfl, rfl⟩
                    · go_wp2
                      go_meet
                      exact ⟨rfl, by simp [loF, show ¬ low < 0 by omega], rfl, by simp [heF, loF, show ¬ low < 0 by omega], rfl, rfl⟩
                · by_cases hh : high < 0
                  · cases late
                    · go_wp2
                      go_meet
                      exact ⟨by simp [hiF, hh], rfl, by simp [ltF, hiF, hh], rfl, rfl, rfl⟩
                    · go_wp2
                      go_meet
                      exact ⟨by simp [hiF, hh], rfl, by simp [ltF, hiF, hh], rfl, rfl, rfl⟩
                  · cases late
                    · go_wp2
                      go_meet
                      exact ⟨by simp [hiF, show ¬ high < 0 by omega], rfl, by simp [ltF, hiF, show ¬ high < 0 by omega], rfl, rfl, rfl⟩
                    · go_wp2
                      go_meet
                      exact ⟨by simp [hiF, show ¬ high < 0 by omega], rfl, by simp [ltF, hiF, show ¬ high < 0 by omega], rfl, rfl, rfl⟩
              case rest =>
                obtain ⟨rfl, rfl, rfl, rfl, rfl, hww⟩ := hcut
                subst hww
                obtain ⟨T1, T2⟩ := on_tick (on := on) TI.out.1 hP1 hP2
                obtain ⟨U1, U2⟩ := off_tick (on := on) TI.out.2 hP1 hP2
                obtain ⟨ra, rb, rc, rd⟩ := TI.out.1.ranges
                obtain ⟨ra', rb', rc', rd'⟩ := TI.out.2.ranges
                have ro := bit_01' on
                have e1 := tonF_id a b c d (bit on) P now ra rb rc rd ro ⟨hP1, hP2⟩
                have e2 := tofF_id a' b' c' d' (bit on) P now ra' rb' rc' rd' ro ⟨hP1, hP2⟩
                have HH : -1 ≤ hiF on high ∧ hiF on high ≤ (k : Int) * 65535 := by
                  unfold hiF
                  split
                  · split <;> omega
                  · omega
                have LL : -1 ≤ loF on low ∧ loF on low ≤ (k : Int) * 65535 := by
                  unfold loF
                  split
                  · omega
                  · split <;> omega
                have hnI : I64 now := ⟨by omega, by omega⟩
                have hs1 : ∀ y ∈ [a, b, c, d], I64 y := by
                  intro y hy
                  simp only [List.mem_cons, List.not_mem_nil, or_false] at hy
                  rcases hy with rfl | rfl | rfl | rfl <;> exact ⟨by omega, by omega⟩
                have hs2 : ∀ y ∈ [a', b', c', d'], I64 y := by
                  intro y hy
                  simp only [List.mem_cons, List.not_mem_nil, or_false] at hy
                  rcases hy with rfl | rfl | rfl | rfl <;> exact ⟨by omega, by omega⟩
                have hs3 : ∀ y ∈ [bit on, P], I64 y := by
                  intro y hy
                  simp only [List.mem_cons, List.not_mem_nil, or_false] at hy
                  rcases hy with rfl | rfl <;> exact ⟨by omega, by omega⟩
                rw [T1] at e1
                rw [U1] at e2
                generalize tonS a b c d (bit on) P (now % 4294967296) = S1 at e1 T2
                generalize tofS a' b' c' d' (bit on) P (now % 4294967296) = S2 at e2 U2
                generalize hiF on high = hi at HH T2 ⊢
                generalize loF on low = lo at LL U2 ⊢
                generalize ltF on late high P = lt at e1 T2 ⊢
                generalize heF on held low P = he at e2 U2 ⊢
                have E1 := Lib.hid e1
                have E2 := Lib.hid e2
                have TT := Lib.hid (And.intro T2 U2)
                have SS := Lib.hid (And.intro hs1 (And.intro hs2 hs3))
                clear e1 e2 T1 U1 T2 U2 hs1 hs2 hs3 ra rb rc rd ra' rb' rc' rd' TI h1 h2 l1 l2
                generalize bit on = x at E1 E2 SS ro ⊢
                have M3 : Hid (Rd (wr.alloc (.cells #[.int .i64 x, .int .i64 P] 3)) 1 (some ⟨g1, 0, none⟩) 4 (ints [a, b, c, d]) ∧ Rd (wr.alloc (.cells #[.int .i64 x, .int .i64 P] 3)) 1 (some ⟨wr.heap.size, 0, none⟩) 2 (ints [x, P]) ∧ Rd (wr.alloc (.cells #[.int .i64 x, .int .i64 P] 3)) 1 (some ⟨g2, 0, none⟩) 4 (ints [a', b', c', d']) ∧ Below w.heap.size w (wr.alloc (.cells #[.int .i64 x, .int .i64 P] 3))) :=
                  ⟨RS.out.1.alloc _, Rd.own ((((Mem.start wr).alloc 3 #[.int .i64 x, .int .i64 P]).asRow (sz := 1) (n := 2) (xs := ints [x, P]) rfl rfl (by decide)).rowO 0 rfl), RS.out.2.1.alloc _, RS.out.2.2.trans ((below_alloc _).mono RS.out.2.2.size)⟩
                go_wp2_with fail
                generalize World.alloc _ _ = w3 at M3 ⊢
                refine (Step_ton m _ 4 _ [a, b, c, d] _ 2 _ [x, P] now w3 ((M3.out.2.2.2.cell HM.out.2).trans HM.out.1) M3.out.1 M3.out.2.1 SS.out.1 SS.out.2.2 hnI).mono ?_
                rw [E1.out]
                rintro e w4 ⟨g3, g4, rfl, M4⟩
                dsimp only
                have M5 : Hid (Rd (w4.alloc (.cells #[.int .i64 x, .int .i64 P] 3)) 1 (some ⟨g2, 0, none⟩) 4 (ints [a', b', c', d']) ∧ Rd (w4.alloc (.cells #[.int .i64 x, .int .i64 P] 3)) 1 (some ⟨w4.heap.size, 0, none⟩) 2 (ints [x, P]) ∧ (Rd (w4.alloc (.cells #[.int .i64 x, .int .i64 P] 3)) 1 (some ⟨g3, 0, none⟩) 4 (ints [S1.a, S1.b, S1.c, S1.d]) ∧ Rd (w4.alloc (.cells #[.int .i64 x, .int .i64 P] 3)) 1 (some ⟨g4, 0, none⟩) 2 (ints [bit lt, S1.e])) ∧ Below w.heap.size w (w4.alloc (.cells #[.int .i64 x, .int .i64 P] 3))) :=
                  ⟨(M3.out.2.2.1.below M4.bel).alloc _, Rd.own ((((Mem.start w4).alloc 3 #[.int .i64 x, .int .i64 P]).asRow (sz := 1) (n := 2) (xs := ints [x, P]) rfl rfl (by decide)).rowO 0 rfl), ⟨(M4.rdO 0 rfl).alloc _, (M4.rdO 1 rfl).alloc _⟩, (M3.out.2.2.2.trans (M4.bel.mono M3.out.2.2.2.size)).trans ((below_alloc _).mono (M3.out.2.2.2.trans (M4.bel.mono M3.out.2.2.2.size)).size)⟩
                clear M3 M4 RS x0 x1
                go_wp2_with fail
                generalize World.alloc _ _ = w5 at M5 ⊢
                refine (Step_tof m _ 4 _ [a', b', c', d'] _ 2 _ [x, P] now w5 ((M5.out.2.2.2.cell HM.out.2).trans HM.out.1) M5.out.1 M5.out.2.1 SS.out.2.1 SS.out.2.2 hnI).mono ?_
                rw [E2.out]
                rintro e w6 ⟨g5, g6, rfl, M6⟩
                dsimp only
                have R6 : Hid (Rd w6 1 (some ⟨g3, 0, none⟩) 4 (ints [S1.a, S1.b, S1.c, S1.d]) ∧ Rd w6 1 (some ⟨g5, 0, none⟩) 4 (ints [S2.a, S2.b, S2.c, S2.d]) ∧ Below w.heap.size w w6) :=
                  ⟨M5.out.2.2.1.1.below M6.bel, M6.rdO 0 rfl, M5.out.2.2.2.trans (M6.bel.mono M5.out.2.2.2.size)⟩
                have q4 := M5.out.2.2.1.2.below M6.bel
                have q6 := M6.rdO 1 rfl
                clear M5 M6
                obtain ⟨b4, o4, e4, c4'⟩ := q4.2 (by decide)
                injection e4 with e4
                injection e4 with e4 e4' s4'
                subst e4 e4'
                clear s4'
                obtain ⟨b6, o6, e6, c6'⟩ := q6.2 (by decide)
                injection e6 with e6
                injection e6 with e6 e6' s6'
                subst e6 e6'
                clear s6'
                have d4 : w6.cell? ⟨g4, 0, none⟩ = some (.int .i64 (bit lt)) := c4' 0 _ rfl
                have d6 : w6.cell? ⟨g6, 0, none⟩ = some (.int .i64 (bit he)) := c6' 0 _ rfl
                clear c4' c6' q4 q6
                have hb1 : (bit lt == 1) = lt := by cases lt <;> rfl
                have hb2 : (bit he == 1) = he := by cases he <;> rfl
                have hb3 : (lt != lt) = false := by simp
                have hb4 : (he != he) = false := by simp
                clear E1 E2 SS hxl
                obtain ⟨b7, o7, y, e7, hyk, _, y0, y1⟩ := wt_at (HR.out.below R6.out.2.2) hlt
                injection e7 with e7
                injection e7 with e7 e7' s7'
                subst e7 e7'
                clear s7'
                have hyl := HX.out y (List.mem_of_getElem? hyk)
                obtain ⟨on7, len7⟩ := y
                dsimp only at y1 hyl
                obtain ⟨hy1, hy2⟩ := hyl
                have es := and_16 len7
                obtain ⟨s, hs⟩ : ∃ s, bits .and .i64 len7 65535 = s := ⟨_, rfl⟩
                have s0 : 0 ≤ s := by omega
                have s1 : s ≤ 65535 := by omega
                clear es hyk y0
                have Z1 := TT.out.1 s s0 (by omega)
                have Z2 := TT.out.2 s s0 (by omega)
                have ZZ := Lib.hid (And.intro Z1 Z2)
                clear Z1 Z2 TT
                by_cases hi0 : 0 ≤ hi
                · have eb : adv hi s = hi + s := if_pos hi0
                  rw [eb] at ZZ
                  by_cases hh : 0 ≤ lo
                  · have ea : adv lo s = lo + s := if_pos hh
                    rw [ea] at ZZ
                    clear ea eb
                    go_wp2
                    go_roundw
                    case rel => exact ⟨k + 1, g3, 4, g5, 4, now + s, hi + s, lo + s, lt, he, S1.a, S1.b, S1.c, S1.d, S2.a, S2.b, S2.c, S2.d, ⟨by omega, by omega⟩, rfl, rfl, rfl, rfl, rfl, rfl, rfl, by go_num, by omega, by omega, by omega, ZZ, R6⟩
                    case measure => simp [intOf]; omega
                  · have ea : adv lo s = lo := if_neg hh
                    rw [ea] at ZZ
                    clear ea eb
                    go_wp2
                    go_roundw
                    case rel => exact ⟨k + 1, g3, 4, g5, 4, now + s, hi + s, lo, lt, he, S1.a, S1.b, S1.c, S1.d, S2.a, S2.b, S2.c, S2.d, ⟨by omega, by omega⟩, rfl, rfl, rfl, rfl, rfl, rfl, rfl, by go_num, by omega, by omega, by omega, ZZ, R6⟩
                    case measure => simp [intOf]; omega
                · have eb : adv hi s = hi := if_neg hi0
                  rw [eb] at ZZ
                  by_cases hh : 0 ≤ lo
                  · have ea : adv lo s = lo + s := if_pos hh
                    rw [ea] at ZZ
                    clear ea eb
                    go_wp2
                    go_roundw
                    case rel => exact ⟨k + 1, g3, 4, g5, 4, now + s, hi, lo + s, lt, he, S1.a, S1.b, S1.c, S1.d, S2.a, S2.b, S2.c, S2.d, ⟨by omega, by omega⟩, rfl, rfl, rfl, rfl, rfl, rfl, rfl, by go_num, by omega, by omega, by omega, ZZ, R6⟩
                    case measure => simp [intOf]; omega
                  · have ea : adv lo s = lo := if_neg hh
                    rw [ea] at ZZ
                    clear ea eb
                    go_wp2
                    go_roundw
                    case rel => exact ⟨k + 1, g3, 4, g5, 4, now + s, hi, lo, lt, he, S1.a, S1.b, S1.c, S1.d, S2.a, S2.b, S2.c, S2.d, ⟨by omega, by omega⟩, rfl, rfl, rfl, rfl, rfl, rfl, rfl, by go_num, by omega, by omega, by omega, ZZ, R6⟩
                    case measure => simp [intOf]; omega
            · have hk7 : ¬ (k : Int) < 60000 := by omega
              have hkn : (k : Int) < (N : Int) := by omega
              clear TI
              go_wp2_with fail
              refine (shape_known (b := b_ton) (by simp [bts]) m wr ((RS.out.2.2.cell HM.out.2).trans HM.out.1)).mono ?_
              rintro e w4 ⟨A1, d1, A2, d2, A3, d3, Ks, rfl, M4⟩
              dsimp only
              have M5 := Lib.hid (M4.alloc 24 #[.slice A1 (pinsL b_ton.ins).length d1, .slice A2 (pinsL b_ton.outs).length d2, .slice A3 (pinsL b_ton.st).length d3])
              have B5 := Lib.hid (RS.out.2.2.trans (M5.out.bel.mono RS.out.2.2.size))
              have z5 := M5.out.cellK 0 rfl 1
              have ez : (pinsL b_ton.outs).length = 2 := by kernel_rfl
              rw [ez] at M5 B5 z5 ⊢
              go_wp2
              go_ret
              exact ⟨rfl, B5.out⟩
          · have hkn : ¬ (k : Int) < (N : Int) := by omega
            clear TI
            go_wp2_with fail
            refine (shape_known (b := b_ton) (by simp [bts]) m wr ((RS.out.2.2.cell HM.out.2).trans HM.out.1)).mono ?_
            rintro e w4 ⟨A1, d1, A2, d2, A3, d3, Ks, rfl, M4⟩
            dsimp only
            have M5 := Lib.hid (M4.alloc 24 #[.slice A1 (pinsL b_ton.ins).length d1, .slice A2 (pinsL b_ton.outs).length d2, .slice A3 (pinsL b_ton.st).length d3])
            have B5 := Lib.hid (RS.out.2.2.trans (M5.out.bel.mono RS.out.2.2.size))
            have z5 := M5.out.cellK 0 rfl 1
            have ez : (pinsL b_ton.outs).length = 2 := by kernel_rfl
            rw [ez] at M5 B5 z5 ⊢
            go_wp2
            go_ret
            exact ⟨rfl, B5.out⟩
end Go.Proofs.YthgjjclmepfbpaaDoor.Blk
