/-
  A step of a guard by safety's Step: what the plain step says, with a row of its own. Conditions: the guard, the trip and what is told read, within the reach.
-/
import Derived.Test.YtdofkakbfolpkaaSg4
namespace Go.Proofs.Ytdofkakbfolpkaa.Sf
open Go.RowKit Go.Proofs.Ytdofkakbfolpkaa.W Go.Proofs.Ytdofkakbfolpkaa.Ints Go.Proofs.Ytdofkakbfolpkaa.Pop

theorem Step_any (m d : Int) (Q : Option Addr) (n c : Nat) (vs : List VD) (T : TR) (A : Option Addr) (e : Nat) (told : List Int) (Z : Option Addr) (k z : Nat) (key : Bool) (w : World) (hr : GRd w Q n vs)
    (ht : Rd w 1 A T.held.length (ints T.held)) (ht8 : T.held.length * 8 ≤ 140737488351232) (hz : Rd w 1 Z k (ints told)) (hz8 : k * 8 ≤ 140737488351232) :
    Calls Try.prog 16 #[guardV m d Q n c, tripV T.down T.first A T.held.length e T.key, .slice Z k z, .bool key] w fun x w' => TripT w w' x (stepF m d (vs.map VD.pl) T told key) := by
  by_cases h : (guardF m d (vs.map VD.pl)).1 = 0
  · by_cases h2 : standsB d n T = true
    · by_cases h3 : (k : Int) = m
      · exact step_main m d Q n c vs T A e told Z k z key w hr ht ht8 hz hz8 h h2 h3
      · exact step_state m d Q n c vs T A e told Z k z key w hr ht ht8 hz hz8 h (.inr h3)
    · exact step_state m d Q n c vs T A e told Z k z key w hr ht ht8 hz hz8 h (.inl (by simpa using h2))
  · exact step_code m d Q n c vs T A e told Z k z key w hr h
end Go.Proofs.Ytdofkakbfolpkaa.Sf
