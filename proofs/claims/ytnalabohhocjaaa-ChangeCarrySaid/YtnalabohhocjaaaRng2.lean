/-
  As the range that goes on, where what a round is given lies in a new block. Conditions: as there.
-/
import Derived.Test.YtnalabohhocjaaaRng
namespace Go.Proofs.Ytnalabohhocjaaa.W
open Go.RowKit

variable {F : Fence} {n : Nat} {P : Program}
theorem range_nextA {α : Type} {g : Operand} {ps : Array Tmp} {assign body : Code} {Q : Exit → Act → World → Prop} {a : Act} {w : World} (hro : F.round = none) (h1 : 1 ≤ n) {gf : Nat} {lb : Array Value} (hg : a.eval g = .func (.func gf) #[] lb) (hFg : F.fn gf)
    (eg : ∀ args w, (callFunc gf args).run P w = .ok (.enter gf args) w) {encs : α → Array Value} {Nx : List α → α → Prop} {S : List α → Prop} {Kp : World → World → Prop} {E : TypeId}
    (hseq : ∀ (l : Nat) (J : List α → World → Prop) (W : World), Below w.heap.size w W → AbidesE E W.heap.size J →
      (∀ pre x W1, J pre W1 → Nx pre x → YieldAt F (n - 1 - 1) P l (encs x) W1 fun e W' => e = .returned (.bool true) ∧ J (pre ++ [x]) W' ∧ Kp W1 W') → J [] W →
      CallsIn F (n - 1) P gf (#[.func (.yield l) #[] #[]] ++ lb) W fun e W' => (∃ v, e = .returned v) ∧ ∃ xs, S xs ∧ J xs W')
    (hKt : ∀ {A B C : World}, Kp A B → Kp B C → Kp A C) (hKb : ∀ (W : World) (l : Nat) (o o' : Obj), w.heap.size ≤ l → W.heap[l]? = some o → o.isCells = false → Kp W (W.putObj l o')) (hKa : ∀ (W : World) (o : Obj), Kp W (W.alloc o)) (hps : ∀ x, (encs x).size = ps.size)
    (I : List α → World → Prop) (hI : OwnFrom w.heap.size I) (hIe : AbidesE E w.heap.size I) (h0 : I [] w) (a₁ : Nat → α → Act) (oA : α → Obj) (_hoA : ∀ x, (oA x).isCells = true)
    (hassign : ∀ (l : Nat) (x : α) (W : World) (K : Act → World → Prop), K (a₁ W.heap.size x) (W.alloc (oA x)) → assign.wpIn (F.inRound l) (n - 1 - 1) P (Exit.then K (fun _ _ _ => False)) { tmps := (ps.zip (encs x)).foldl (fun t (p, v) => t.setIfInBounds p v) a.tmps, defers := [] } W)
    (hbody : ∀ (l : Nat) (pre : List α) (x : α) (gs : Nat) (W : World), I pre W → Nx pre x → W.heap[gs]? = some (oA x) → w.heap.size ≤ gs → body.wpIn (F.inRound l) (n - 1 - 1) P (goesOn w.heap.size Kp I (pre ++ [x]) W) (a₁ gs x) W)
    (hdone : ∀ (D : Nat) (xs : List α) (W : World), w.heap.size ≤ D → S xs → I xs W → W.heap[D]? = some (.deferred (some [])) → Q .normal { a with defers := { target := .collected D, args := #[] } :: a.defers } W) :
    (Code.rangeFunc g ps assign body).wpIn F n P Q a w := by
  refine wpIn_rangeFunc fun fn hfn => ?_
  rw [hro]
  let rec' : LoopState → Option Code → Loop := fun st pe => { state := st, pending := pe, fn, tmps := a.tmps, params := ps, assign, body, defers := w.heap.size }
  generalize hW1 : (w.alloc (.deferred (some []))).alloc (.loop (rec' .ready none)) = W1
  have zL : W1.heap.size = w.heap.size + 2 := by rw [← hW1]; simp
  have hL : W1.heap[w.heap.size + 1]? = some (.loop (rec' .ready none)) := by
    have h := World.alloc_heap_new (w.alloc (.deferred (some []))) (.loop (rec' .ready none))
    rw [World.size_alloc] at h
    rw [← hW1]; exact h
  have hD : W1.heap[w.heap.size]? = some (.deferred (some [])) := by
    rw [← hW1]; exact (Below.heap_alloc _ _ _ (by simp)).trans (World.alloc_heap_new w _)
  have hI1 : I [] W1 := by rw [← hW1]; exact hI.alloc _ (hI.alloc _ h0)
  have hB1 : Below w.heap.size w W1 := by rw [← hW1]; exact below2 w _ _
  refine ⟨w.heap.size + 1, [{ target := .collected w.heap.size, args := #[] }], W1, { target := .fn (.func gf) lb, args := #[.func (.yield (w.heap.size + 1)) #[] #[]] }, W1, gf, #[.func (.yield (w.heap.size + 1)) #[] #[]] ++ lb, W1, ?_, ?_, ?_, ?_, fun _ => h1, ?_⟩
  · rw [← hW1]; exact run_enterLoop_outer _ _ _ _ _
  · simp only [resolve, hg]; simp [go_sem]
  · intro f' hf'; simp [Target.leads] at hf'; subst hf'; exact hFg
  · simp [invoke, go_sem, eg]
  refine (hseq (w.heap.size + 1) (fun pre W => I pre W ∧ W.heap[w.heap.size + 1]? = some (.loop (rec' .ready none)) ∧ W.heap[w.heap.size]? = some (.deferred (some []))) W1 hB1
    (fun pre A A' row h hgr hr => ⟨hIe pre A A' row h.1 hgr (fun r e => ⟨by have := (hr r e).1; omega, (hr r e).2⟩), keeps_other hgr hr h.2.1 rfl, keeps_other hgr hr h.2.2 rfl⟩) ?_ ⟨hI1, hL, hD⟩).mono ?_
  · rintro pre x W ⟨hi, hl, hd⟩ hx
    have hlt : w.heap.size + 1 < W.heap.size := (Array.getElem?_eq_some_iff.1 hl).1
    have hl' : (W.alloc (oA x)).heap[w.heap.size + 1]? = some (.loop (rec' .ready none)) := (Below.heap_alloc _ _ _ hlt).trans hl
    have hd' : (W.alloc (oA x)).heap[w.heap.size]? = some (.deferred (some [])) := (Below.heap_alloc _ _ _ (by omega)).trans hd
    have hlt' : w.heap.size + 1 < (W.alloc (oA x)).heap.size := (Array.getElem?_eq_some_iff.1 hl').1
    have ho' : (W.alloc (oA x)).heap[W.heap.size]? = some (oA x) := World.alloc_heap_new W _
    refine ⟨fn, _, assign, body, run_yield (P := P) (args := encs x) hl (hps x), roundIn_of_wpIn hfn (hassign _ x W _ ⟨_, run_beginRound hl' rfl, ?_⟩)⟩
    have hl2 : ((W.alloc (oA x)).putObj (w.heap.size + 1) (.loop { rec' .ready none with state := .busy })).heap[w.heap.size + 1]? = some (.loop { rec' .ready none with state := .busy }) := World.putObj_heap_same hlt'
    have hd2 : ((W.alloc (oA x)).putObj (w.heap.size + 1) (.loop { rec' .ready none with state := .busy })).heap[w.heap.size]? = some (.deferred (some [])) := (World.putObj_heap_other (by omega)).trans hd'
    have ho2 : ((W.alloc (oA x)).putObj (w.heap.size + 1) (.loop { rec' .ready none with state := .busy })).heap[W.heap.size]? = some (oA x) := (World.putObj_heap_other (by omega)).trans ho'
    refine wpIn_mono (hbody _ pre x W.heap.size _ (hI.putObj _ (hI.alloc _ hi) (by omega) hl' rfl) hx ho2 (by omega)) ?_
    intro e a3 W3 hp
    cases e with
    | normal =>
      obtain ⟨k3, p3, i3⟩ := hp
      have hl3 := k3.same _ _ (by omega) hl2 rfl
      have hd3 := k3.same _ _ (Nat.le_refl _) hd2 rfl
      have hr := run_endRound (P := P) none hl3
      exact ⟨_, _, hr, rfl, ⟨hI.putObj _ i3 (by omega) hl3 rfl, World.putObj_heap_same (Array.getElem?_eq_some_iff.1 hl3).1, (World.putObj_heap_other (by omega)).trans hd3⟩, hKt (hKt (hKt (hKa W (oA x)) (hKb _ _ _ _ (by omega) hl' rfl)) p3) (hKb _ _ _ _ (by omega) hl3 rfl)⟩
    | _ => exact hp.elim
  · rintro e W2 ⟨⟨v, rfl⟩, xs, hS, hi, hl, hd⟩
    exact ⟨none, _, run_endLoop (P := P) hl (by simp [rec']), hdone _ xs _ (Nat.le_refl _) hS (hI.putObj _ hi (by omega) hl rfl) ((World.putObj_heap_other (by omega)).trans hd)⟩
end Go.Proofs.Ytnalabohhocjaaa.W
