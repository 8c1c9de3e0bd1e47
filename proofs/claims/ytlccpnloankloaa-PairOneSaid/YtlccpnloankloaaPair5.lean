/-
  The contracts of the four steps that pair hands to with. Conditions: the captured cells are there.
-/
import Derived.Test.YtlccpnloankloaaPair4
import Derived.BigRegion
namespace Go.Proofs.Ytlccpnloankloaa.Pair
open Go.RowKit Go.Proofs.Ytlccpnloankloaa.W Go.Proofs.Ytlccpnloankloaa.Ints

theorem grow_set {a w : World} {g : Nat} (h : a.grownBy w (some g)) {p : Addr} (hp : p.block = g) (u : Value) : a.grownBy (w.setCell p u) (some g) :=
  ⟨h.os, h.tape, h.output, by simpa [World.setCell] using h.size, fun i hi hne => (Below.heap_setCell w p u i (by
    rintro rfl
    exact hne (by rw [hp]))).trans (h.block i hi hne)⟩
theorem grow_at {a w : World} {g i : Nat} {u : Value} (h : a.grownBy w (some g)) : a.grownBy (w.setCell ⟨g, i, none⟩ u) (some g) := grow_set h rfl u
theorem grow_drewN {a w : World} {r : Option Nat} (h : a.grownBy w r) (k : Nat) : a.grownBy (w.drewN k) r := ⟨h.os, h.tape, h.output, h.size, h.block⟩
theorem grow_drew {a w : World} {r : Option Nat} (h : a.grownBy w r) : a.grownBy w.drew r := ⟨h.os, h.tape, h.output, h.size, h.block⟩
theorem blk_to {w : World} {g : Nat} {t : TypeId} {c d : Array Value} (h : Blk w g t c) (e : c = d) : Blk w g t d := e ▸ h

theorem blk_put {w : World} {g i : Nat} {t : TypeId} {cs d : Array Value} {u : Value} (h : Blk w g t cs) (e : cs.setIfInBounds i u = d) : Blk (w.setCell ⟨g, i, none⟩ u) g t d := e ▸ h.put i u
theorem blk_drew {w : World} {g : Nat} {t : TypeId} {cs : Array Value} (h : Blk w g t cs) : Blk w.drew g t cs := h
theorem blk_drewN {w : World} {g k : Nat} {t : TypeId} {cs : Array Value} (h : Blk w g t cs) : Blk (w.drewN k) g t cs := h
theorem step_Send (w : World) (me : Int) (act : Bool) (term cyc : Int) (A : Option Addr) (n c : Nat) (sil pat : Int) :
    StepSend w ⟨me, act, term, cyc, .slice A n c, sil, pat⟩ (⟨me, act, term, cyc, .slice A n c, sil, pat⟩, if act then 0 else 18) := by
  intro W b hb hB hk
  have c1 := hk.cell
  have HK := Lib.hid hk
  clear hk hb
  cases act
  all_goals go_enter Try.func39, Try.ntmps39
  all_goals go_wp2
  all_goals go_ret
  all_goals exact ⟨rfl, HK.out, Grow.refl _ _⟩

def waitS {α : Type} (s : SD α) : SD α × Int :=
  if s.act then (s, 0) else if s.sil + 1 < s.pat then ({ s with sil := s.sil + 1 }, 0) else if s.term = 1000000 then (s, 14) else ({ s with act := true, term := s.term + 1, sil := 0 }, 0)
set_option maxHeartbeats 1600000 in
theorem step_Wait (w : World) (me : Int) (act : Bool) (term cyc : Int) (A : Option Addr) (n c : Nat) (sil pat : Int) (hok : standB me act term cyc n sil pat = true) :
    StepWait w ⟨me, act, term, cyc, .slice A n c, sil, pat⟩ (waitS ⟨me, act, term, cyc, .slice A n c, sil, pat⟩) := by
  obtain ⟨⟨b1, b2, b3, b4, b5, b6, b7⟩, b8, b9, b10, b11, b12⟩ := standB_iff.1 hok
  clear b12 hok
  intro W b hb hB hk
  have c1 := hk.cell
  have f1 := hk.frozen
  have HK := Lib.hid hk
  clear hk hb
  cases act
  · by_cases h1 : sil + 1 < pat
    · rw [show waitS (⟨me, false, term, cyc, .slice A n c, sil, pat⟩ : SD Value) = (⟨me, false, term, cyc, .slice A n c, sil + 1, pat⟩, 0) from by simp [waitS, h1]]
      go_enter Try.func41, Try.ntmps41
      go_wp2
      go_quiet (fail)
      go_wp2
      go_ret
      refine ⟨rfl, ?_, ?_⟩
      · exact blk_put (blk_drewN HK.out) (by simp)
      · exact grow_at (grow_drewN (Grow.refl _ _) _)
    · by_cases h2 : term = 1000000
      · subst h2
        rw [show waitS (⟨me, false, 1000000, cyc, .slice A n c, sil, pat⟩ : SD Value) = (⟨me, false, 1000000, cyc, .slice A n c, sil, pat⟩, 14) from by simp [waitS, h1]]
        go_enter Try.func41, Try.ntmps41
        go_wp2
        go_quiet (fail)
        go_wp2
        go_ret
        exact ⟨rfl, HK.out.drewN _, grow_drewN (Grow.refl _ _) _⟩
      · rw [show waitS (⟨me, false, term, cyc, .slice A n c, sil, pat⟩ : SD Value) = (⟨me, true, term + 1, cyc, .slice A n c, 0, pat⟩, 0) from by simp [waitS, h1, h2]]
        have h2' : (term == 1000000) = false := by simp [h2]
        clear h2
        go_enter Try.func41, Try.ntmps41
        go_wp2
        go_quiet (fail)
        go_wp2
        go_ret
        refine ⟨rfl, ?_, ?_⟩
        · exact blk_put (blk_put (blk_put (blk_drewN HK.out) rfl) rfl) (by simp)
        · exact grow_at (grow_at (grow_at (grow_drewN (Grow.refl _ _) _)))
  · rw [show waitS (⟨me, true, term, cyc, .slice A n c, sil, pat⟩ : SD Value) = (⟨me, true, term, cyc, .slice A n c, sil, pat⟩, 0) from by simp [waitS]]
    go_enter Try.func41, Try.ntmps41
    go_wp2
    go_ret
    exact ⟨rfl, HK.out, Grow.refl _ _⟩

def doneS {α : Type} (s : SD α) (x : α) (m : Nat) : SD α × Int :=
  if s.act then (if m ≤ 20000 then (if s.cyc = 999999999 then (s, 14) else ({ s with cyc := s.cyc + 1, img := x }, 0)) else (s, 4)) else (s, 18)
set_option maxHeartbeats 1600000 in
theorem step_Done (w : World) (q : Nat) (me : Int) (act : Bool) (term cyc : Int) (A : Option Addr) (n c : Nat) (sil pat : Int) (B : Option Addr) (m d : Nat) (hok : standB me act term cyc n sil pat = true)
    (hq : Blk w q 23 #[.slice B m d]) :
    StepDone q w ⟨me, act, term, cyc, .slice A n c, sil, pat⟩ (doneS ⟨me, act, term, cyc, .slice A n c, sil, pat⟩ (.slice B m d) m) := by
  obtain ⟨⟨b1, b2, b3, b4, b5, b6, b7⟩, b8, b9, b10, b11, b12⟩ := standB_iff.1 hok
  clear b12 hok
  intro W b hb hB hk
  have hql := hq.lt
  have hqW := hq.below hb
  have c2 := hqW.cell 0
  simp at c2
  have c1 := hk.cell
  have f1 := hk.frozen
  have HK := Lib.hid hk
  have hne : b ≠ q := by omega
  clear hk hb hq hqW
  cases act
  · rw [show doneS (⟨me, false, term, cyc, .slice A n c, sil, pat⟩ : SD Value) (.slice B m d) m = (⟨me, false, term, cyc, .slice A n c, sil, pat⟩, 18) from by simp [doneS]]
    go_enter Try.func40, Try.ntmps40
    go_wp2
    go_ret
    exact ⟨rfl, HK.out, Grow.refl _ _⟩
  · by_cases h1 : m ≤ 20000
    · by_cases h2 : cyc = 999999999
      · subst h2
        rw [show doneS (⟨me, true, term, 999999999, .slice A n c, sil, pat⟩ : SD Value) (.slice B m d) m = (⟨me, true, term, 999999999, .slice A n c, sil, pat⟩, 14) from by simp [doneS, h1]]
        go_enter Try.func40, Try.ntmps40
        go_wp2
        go_ret
        exact ⟨rfl, HK.out, Grow.refl _ _⟩
      · rw [show doneS (⟨me, true, term, cyc, .slice A n c, sil, pat⟩ : SD Value) (.slice B m d) m = (⟨me, true, term, cyc + 1, .slice B m d, sil, pat⟩, 0) from by simp [doneS, h1, h2]]
        have h2' : (cyc == 999999999) = false := by simp [h2]
        have h3 : cyc < 999999999 := by omega
        clear h2
        go_enter Try.func40, Try.ntmps40
        go_wp2
        go_region
        go_wp2
        go_ret
        refine ⟨rfl, ?_, ?_⟩
        · exact blk_drew (blk_put (blk_put HK.out rfl) (by simp))
        · exact grow_drew (grow_at (grow_at (Grow.refl _ _)))
    · rw [show doneS (⟨me, true, term, cyc, .slice A n c, sil, pat⟩ : SD Value) (.slice B m d) m = (⟨me, true, term, cyc, .slice A n c, sil, pat⟩, 4) from by simp [doneS, h1]]
      go_enter Try.func40, Try.ntmps40
      go_wp2
      go_ret
      exact ⟨rfl, HK.out, Grow.refl _ _⟩
end Go.Proofs.Ytlccpnloankloaa.Pair
