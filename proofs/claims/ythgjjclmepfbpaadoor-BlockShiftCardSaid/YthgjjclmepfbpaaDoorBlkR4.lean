/-
  The reference's BlockStep at each of the twelve blocks. Conditions: both lists read.
-/
import Derived.Test.YthgjjclmepfbpaaDoorBlkR3
import Derived.Test.YthgjjclmepfbpaaDoorBlkZ
import Derived.Test.YthgjjclmepfbpaaDoorBlk6
namespace Go.Proofs.YthgjjclmepfbpaaDoor.Blk
open Go.RowKit Go.Proofs.YthgjjclmepfbpaaDoor.W Go.Proofs.YthgjjclmepfbpaaDoor.Ints Go.Proofs.YthgjjclmepfbpaaDoor.Cell Go.Proofs.YthgjjclmepfbpaaDoor.Num

/-- the reference's BlockStep at a block does that -/
def RefC (b : BT) (B : Body) (N3 NO : Nat) : Prop := ∀ (A : Option Addr) (n c : Nat) (l : List Int) (A' : Option Addr) (n' c' : Nat) (l' : List Int) (now : Int) (w : World), Rd w 1 A n (ints l) → Rd w 1 A' n' (ints l') →
    Calls Tryd.prog 13 #[.string b.nm, .slice A n c, .slice A' n' c', .int .i64 now] w fun e w' => ∃ g2 g3, e = .returned (.tuple #[.slice (some ⟨g2, 0, none⟩) N3 N3, .slice (some ⟨g3, 0, none⟩) NO NO]) ∧ Mem w w' [] [⟨3, 1, some ⟨g2, 0, none⟩, N3, N3, ints (stepF b B l l' now).1⟩, ⟨3, 1, some ⟨g3, 0, none⟩, NO, NO, ints (stepF b B l l' now).2⟩]
theorem pin_rd {w0 w : World} {Ks : List Box} {Os : List Row} {g : Nat} {l : List PN} (h : Mem w0 w (pinB g l :: Ks) Os) (hl : l.length ≤ 100) : Rd w 2 (some ⟨g, 0, none⟩) l.length (pinV l) :=
  Rd.own ((h.asRow (sz := 2) (n := l.length) (xs := pinV l) (by simp) (pinV_len l) (by unfold maxLen; omega)).rowO 0 rfl)
/-- a known shape's lists read -/
theorem ref_reads {b : BT} (hb : b ∈ bts) (N1 N3 : Nat) (h1 : (pinsL b.ins).length = N1) (h3 : (pinsL b.st).length = N3) (w : World) :
    Calls Tryd.prog 8 #[.string b.nm] w fun e w' => ∃ g1 g2 g3 n2, e = .returned (.tuple #[.agg #[.slice (some ⟨g1, 0, none⟩) N1 N1, .slice (some ⟨g2, 0, none⟩) n2 n2, .slice (some ⟨g3, 0, none⟩) N3 N3], .bool true]) ∧ Rd w' 2 (some ⟨g1, 0, none⟩) N1 (pinV (pinsL b.ins)) ∧ Rd w' 2 (some ⟨g3, 0, none⟩) N3 (pinV (pinsL b.st)) ∧ Mem w w' [] [] := by
  refine (ref_known hb w).mono ?_
  rintro e w' ⟨g1, g2, g3, Ks, rfl, M⟩
  have hk := List.all_eq_true.1 bts_ok b hb
  simp only [Bool.and_eq_true] at hk
  subst h1 h3
  exact ⟨g1, g2, g3, _, rfl, pin_rd M (pin_small hk.1.1), pin_rd (M.upK 2 rfl) (pin_small hk.2), ⟨M.bel, (fun _ h => by cases h), (fun _ h => by cases h), .nil, .nil, (fun _ h => by cases h)⟩⟩
theorem hm2 {w0 w : World} {Ks : List Box} {Os : List Row} (_h : Mem w0 w Ks Os) (g1 gx g3 a n2 b : Nat) :
    (w.alloc (.cells #[.slice (some ⟨g1, 0, none⟩) a a, .slice (some ⟨gx, 0, none⟩) n2 n2, .slice (some ⟨g3, 0, none⟩) b b] 24)).cell? ⟨w.heap.size, 0, none⟩ = some (.slice (some ⟨g1, 0, none⟩) a a) ∧ (w.alloc (.cells #[.slice (some ⟨g1, 0, none⟩) a a, .slice (some ⟨gx, 0, none⟩) n2 n2, .slice (some ⟨g3, 0, none⟩) b b] 24)).cell? ⟨w.heap.size, 2, none⟩ = some (.slice (some ⟨g3, 0, none⟩) b b) :=
  ⟨(Blk.new w 24 _).cell 0, (Blk.new w 24 _).cell 2⟩
end Go.Proofs.YthgjjclmepfbpaaDoor.Blk
