/-
  What a link has behind frames and ticks: plain laws; posts that came in. No conditions.
-/
import Derived.Test.YtdncdmibmopilaaSaf2
import Derived.Test.YtdncdmibmopilaaRec
import Derived.Test.YtdncdmibmopilaaRecs
namespace Go.Proofs.Ytdncdmibmopilaa.Bus
open Go.RowKit Go.Proofs.Ytdncdmibmopilaa.W Go.Proofs.Ytdncdmibmopilaa.Ints Go.Proofs.Ytdncdmibmopilaa.Byt Go.Proofs.Ytdncdmibmopilaa.Num Go.Proofs.Ytdncdmibmopilaa.Keep

structure PD where
  what : Int
  how : Int
  jA : Option Addr
  jn : Nat
  jc : Nat
def PD.cs (p : PD) : List Value := [.int .i64 p.what, .int .i64 p.how, .slice p.jA p.jn p.jc]
def PD.ok (p : PD) : Prop := (-9223372036854775808 ≤ p.what ∧ p.what ≤ 9223372036854775807) ∧ -9223372036854775808 ≤ p.how ∧ p.how ≤ 9223372036854775807
theorem PD.len (p : PD) : p.cs.length = 3 := rfl
theorem post_in {H : Type} {enc : TypeId × Value → H} {w : World} {cs : List Value} (h : O.Op enc Try.prog w 53 cs) : ∃ t : PD, cs = t.cs ∧ t.ok := by
  obtain ⟨hl, hf⟩ := h.struct Try.underlying53
  match cs, hl.trans (by kernel_rfl : Try.prog.cellsOf 53 = 3) with
  | [c0, c1, c2], _ =>
    obtain ⟨x0, e0, h0, h0'⟩ := (hf 0 _ rfl).i64 Try.underlying3
    obtain ⟨x1, e1, h1, h1'⟩ := (hf 1 _ rfl).i64 Try.underlying3
    have k3 : Try.prog.cellsOf 3 = 1 := by kernel_rfl
    have k4 : Try.prog.cellsOf 31 = 1 := by kernel_rfl
    have h2 := (hf 2 _ rfl).slice Try.underlying31
    simp [k3] at e0 e1
    subst e0 e1
    have h2' : ∃ A n c, c2 = .slice A n c := by
      rcases h2 with h2 | ⟨a, len, cap, h2, _⟩
      · simp [k4] at h2
        exact ⟨_, _, _, h2⟩
      · simp [k4] at h2
        exact ⟨_, _, _, h2⟩
    obtain ⟨A, n, c, rfl⟩ := h2'
    exact ⟨⟨x0, x1, A, n, c⟩, rfl, ⟨h0, h0'⟩, h1, h1'⟩
theorem posts_in {H : Type} {enc : TypeId × Value → H} {w : World} {A : Option Addr} {n c : Nat} (h : O.Op enc Try.prog w 48 [.slice A n c]) :
    ∃ ts : List PD, n ≤ c ∧ Rd w 3 A n (ts.flatMap PD.cs) ∧ ∀ t ∈ ts, t.ok := by
  obtain ⟨A', n', c', xs, e, h1, _, h3, h4, _⟩ := h.recs (bt := 40) PD.len (by omega) ⟨0, 0, none, 0, 0⟩ Try.underlying48 (by kernel_rfl) (by kernel_rfl) (fun cs h => post_in h)
  simp only [List.cons.injEq, Value.slice.injEq, and_true] at e
  obtain ⟨rfl, rfl, rfl⟩ := e
  exact ⟨xs, h1, h3, h4⟩

/-- the words of the frame that was sent as j-th, and that frame -/
def wd (j : Int) : List Int := if j < 0 then [0, 65535] else [j, 1000 - j]
def frB (j : Nat) : List UInt8 := frameB 5 (j % 256) [(j : Int), 1000 - (j : Int)]
theorem fr_len (j : Nat) : (frB j).length = 9 := frame_len _ _ _
theorem wd_len (j : Int) : (wd j).length = 2 := by unfold wd; split <;> rfl
theorem wd_nat (j : Nat) : wd (j : Int) = [(j : Int), 1000 - (j : Int)] := by unfold wd; rw [if_neg (by omega)]
theorem spelt_two {a b : Int} (ha : 0 ≤ a) (ha' : a ≤ 65535) (hb : 0 ≤ b) (hb' : b ≤ 65535) : speltE [a, b] = 0 := by
  simp [speltE, wordB, ha, ha', hb, hb']
theorem spelt_wd {j : Int} (h : j ≤ 1000) : speltE (wd j) = 0 := by
  unfold wd
  split
  · decide
  · exact spelt_two (by omega) (by omega) (by omega) (by omega)
theorem fr_framed {j : Nat} (h : j ≤ 1000) : frameF 5 ((j : Int) % 256) [(j : Int), 1000 - (j : Int)] = (frB j, 0) := by
  rw [framed (by omega) (by omega) (by omega) (by omega) (spelt_two (by omega) (by omega) (by omega) (by omega))]
  have e : ((j : Int) % 256).toNat = j % 256 := by omega
  rw [e]
  rfl
/-- a link as it stands: which frame it has (-1: none), since how many ticks -/
def lk (W nw sq ag : Int) : LD := ⟨5, W, [0, 65535], wd nw, sq, ag, decide (0 ≤ nw)⟩
def stands (W nw sq ag qt : Int) : Prop := (nw = -1 ∧ ag = 0 ∧ 0 ≤ sq ∧ sq ≤ 255) ∨ (0 ≤ nw ∧ nw ≤ 1000 ∧ sq = nw % 256 ∧ ag = qt ∧ 0 ≤ ag ∧ ag < W)
theorem stands_could {W nw sq ag qt : Int} (hW : 1 ≤ W) (hW' : W ≤ 1000) (h : stands W nw sq ag qt) : couldB 5 W [0, 65535] (wd nw) sq ag (decide (0 ≤ nw)) = true := by
  rcases h with ⟨rfl, rfl, h1, h2⟩ | ⟨h0, h0', rfl, rfl, h1, h2⟩
  · exact could (by omega) (by omega) (by omega) (by decide) (by decide) rfl h1 h2 (by omega) (by omega) (.inr ⟨rfl, rfl⟩)
  · exact could (by omega) (by omega) (by omega) (by decide) (spelt_wd h0') (by rw [wd_len]; rfl) (by omega) (by omega) h1 h2 (.inl (by simpa using h0))
theorem take_fr {W nw sq ag qt : Int} {j : Nat} (hj : j ≤ 1000) (hW : 1 ≤ W) (hW' : W ≤ 1000) (h : stands W nw sq ag qt) :
    heardF 5 W [0, 65535] (wd nw) sq ag (decide (0 ≤ nw)) (openF (frB j)) = if (decide (0 ≤ nw) && lateB sq ((j : Int) % 256)) = true then (⟨5, W, [0, 65535], wd nw, sq, ag, decide (0 ≤ nw)⟩, 18) else (⟨5, W, [0, 65535], [(j : Int), 1000 - (j : Int)], (j : Int) % 256, 0, true⟩, 0) := by
  have e : ((j : Int) % 256).toNat = j % 256 := by omega
  have h1 := took (st := 5) (wt := W) (xs := [0, 65535]) (ys := wd nw) (zs := [(j : Int), 1000 - (j : Int)]) (seq := sq) (age := ag) (q := (j : Int) % 256) (fresh := decide (0 ≤ nw)) (by omega) (by omega) (by omega) (by omega) (spelt_two (by omega) (by omega) (by omega) (by omega)) rfl (stands_could hW hW' h)
  rw [e] at h1
  exact h1
theorem late_ahead {nw : Nat} {j : Nat} : lateB ((nw : Int) % 256) ((j : Int) % 256) = !(decide (0 < ((j : Int) - nw + 512) % 256) && decide (((j : Int) - nw + 512) % 256 < 128)) := by
  rw [lateB, Bool.eq_iff_iff]
  simp only [Bool.or_eq_true, decide_eq_true_eq, Bool.not_eq_true', Bool.and_eq_false_iff, decide_eq_false_iff_not]
  omega
theorem late_ahead2 {nw : Nat} {j : Nat} : lateB ((nw : Int) % 256) ((j : Int) % 256) = !(decide (0 < ((j : Int) - nw) % 256) && decide (((j : Int) - nw) % 256 < 128)) := by
  rw [lateB, Bool.eq_iff_iff]
  simp only [Bool.or_eq_true, decide_eq_true_eq, Bool.not_eq_true', Bool.and_eq_false_iff, decide_eq_false_iff_not]
  omega
theorem tick_fr {W nw sq ag qt : Int} (hW : 1 ≤ W) (hW' : W ≤ 1000) (h : stands W nw sq ag qt) :
    tickF 5 W [0, 65535] (wd nw) sq ag (decide (0 ≤ nw)) = (if 0 ≤ nw then (if ag + 1 = W then ⟨5, W, [0, 65535], [0, 65535], sq, 0, false⟩ else ⟨5, W, [0, 65535], wd nw, sq, ag + 1, true⟩) else ⟨5, W, [0, 65535], wd nw, sq, ag, false⟩, 0) := by
  have hc := stands_could hW hW' h
  unfold tickF
  rw [if_pos hc]
  by_cases h0 : 0 ≤ nw
  · simp [h0]
  · simp [h0]
end Go.Proofs.Ytdncdmibmopilaa.Bus
