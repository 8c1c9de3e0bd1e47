/-
  Held's word for a region whose last store hits what was loaded: S is 'these cells, always; and those, till that store has come up'. No conditions: plain lemmas.
-/
import Derived.Test.YtiogcbckhaknmaaDoorHeld
namespace Go.Proofs.YtiogcbckhaknmaaDoor.W

/-- C always; D till number k has come up -/
def SH (k : Nat) (C D : World → Prop) (L : Array Bool) (w : World) : Prop := C w ∧ (L.getD k true = false → D w)
theorem SH.x {k i : Nat} {C D : World → Prop} {L : Array Bool} {w : World} (h : i ≠ k) : SH k C D (L.setIfInBounds i true) w ↔ SH k C D L w := by
  unfold SH
  have e : (L.setIfInBounds i true).getD k true = L.getD k true := by
    simp only [Array.getD_eq_getD_getElem?, Array.getElem?_setIfInBounds_ne h]
  rw [e]
theorem SH.y {k : Nat} {C D : World → Prop} {L : Array Bool} {w : World} (c : C w) (d : D w) : SH k C D L w := ⟨c, fun _ => d⟩
theorem SH.z {k : Nat} {C D : World → Prop} {L : Array Bool} {w : World} (c : C w) (h : L.getD k true = true) : SH k C D L w := ⟨c, fun h' => by rw [h] at h'; cases h'⟩
end Go.Proofs.YtiogcbckhaknmaaDoor.W
