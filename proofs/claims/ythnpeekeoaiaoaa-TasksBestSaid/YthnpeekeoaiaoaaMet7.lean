/-
  The law TasksMeet answers true of whatever raw numbers read. Conditions: the arguments read, within the form's own reach.
-/
import Derived.Test.YthnpeekeoaiaoaaMet6
namespace Go.Proofs.Ythnpeekeoaiaoaa.Task
open Go.RowKit Go.Proofs.Ythnpeekeoaiaoaa.W Go.Proofs.Ythnpeekeoaiaoaa.Ints

theorem duty_in {H : Type} {enc : TypeId × Value → H} {w : World} {cs : List Value} (h : O.Op enc Try.prog w 63 cs) : ∃ d : DU, cs = d.cs ∧ d.ok := by
  obtain ⟨hl, hf⟩ := h.struct Try.underlying63
  match cs, hl.trans (by kernel_rfl : Try.prog.cellsOf 63 = 4) with
  | [c0, c1, c2, c3], _ =>
    obtain ⟨x0, e0, h0, h0'⟩ := (hf 0 _ rfl).i64 Try.underlying3
    obtain ⟨x1, e1, h1, h1'⟩ := (hf 1 _ rfl).i64 Try.underlying3
    obtain ⟨x2, e2, h2, h2'⟩ := (hf 2 _ rfl).i64 Try.underlying3
    obtain ⟨x3, e3, h3, h3'⟩ := (hf 3 _ rfl).i64 Try.underlying3
    have k3 : Try.prog.cellsOf 3 = 1 := by kernel_rfl
    simp [k3] at e0 e1 e2 e3
    subst e0 e1 e2 e3
    exact ⟨⟨x0, x1, x2, x3⟩, rfl, ⟨h0, h0'⟩, ⟨h1, h1'⟩, ⟨h2, h2'⟩, ⟨h3, h3'⟩⟩
theorem duties_in {H : Type} {enc : TypeId × Value → H} {w : World} {A : Option Addr} {n c : Nat} (h : O.Op enc Try.prog w 38 [.slice A n c]) :
    ∃ l : List DU, Rd w 4 A n (duV l) ∧ ∀ d ∈ l, d.ok := by
  obtain ⟨A', n', c', xs, e, _, _, h3, h4, _⟩ := h.recs (bt := 32) DU.len (by omega) ⟨0, 0, 0, 0⟩ Try.underlying38 (by kernel_rfl) (by kernel_rfl) (fun cs h => duty_in h)
  simp only [List.cons.injEq, Value.slice.injEq, and_true] at e
  obtain ⟨rfl, rfl, rfl⟩ := e
  exact ⟨xs, h3, h4⟩

set_option maxRecDepth 100000 in
set_option maxHeartbeats 6400000 in
theorem Meet_slow (A : Option Addr) (n c : Nat) (idle : Bool) (w : World) (ts : List TD) (N : Nat) (s : Int)
    (hdu : ∀ w', Below w.heap.size w w' → Calls Try.prog 15 #[.slice A n c, .int .i64 5, .bool idle] w' fun e w'' => ∃ A' c', e = .returned (.slice A' N c') ∧ w''.ownsRow w'.heap.size 42 5 (.slice A' N c') N (tasksV ts) ∧ Below w'.heap.size w' w'')
    (hre : ∀ w' A' c', Rd w' 5 A' N (tasksV ts) → N ≤ c' → Calls Try.prog 10 #[.slice A' N c'] w' fun e w'' => ∃ A3 c3, e = .returned (.tuple #[.slice A3 0 c3, faultV (13, s)]) ∧ w''.ownsRow w'.heap.size 3 1 (.slice A3 0 c3) 0 (ints []) ∧ Below w'.heap.size w' w'') :
    Calls Try.prog 5 #[.slice A n c, .bool idle] w fun e w' => e = .returned (.bool true) ∧ Below w.heap.size w w' := by
  have HDU := Lib.hid hdu
  have HRE := Lib.hid hre
  clear hdu hre
  go_enter Try.func5, Try.ntmps5
  go_wp2_with fail
  refine (known_any _).mono ?_
  rintro e w1 ⟨rfl, hb⟩
  have M1 := Lib.hid ((Mem.start w).below hb)
  clear hb
  go_wp2_with fail
  refine (HDU.out _ M1.out.bel).mono ?_
  rintro e w2 ⟨A2, c2, rfl, ho, hb⟩
  have M2 := Lib.hid (M1.out.made hb ho)
  clear ho hb M1
  have hNc := (M2.out.shapeO 0 rfl).1
  go_wp2_with fail
  refine (HRE.out _ A2 c2 (M2.out.rdO 0 rfl) hNc).mono ?_
  rintro e w3 ⟨A3, c3, rfl, ho, hb⟩
  have M3 := Lib.hid ((M2.out.made hb ho).alloc 26 #[.int .i64 13, .int .i64 s, .int .i64 0])
  clear ho hb M2
  have k0 := M3.out.cellK 0 rfl
  have hb := Lib.hid M3.out.bel
  go_wp2
  go_ret
  exact ⟨rfl, hb.out⟩

theorem Meet_any (A : Option Addr) (n c : Nat) (l : List DU) (idle : Bool) (w : World) (hr : Rd w 4 A n (duV l)) (hd : ∀ d ∈ l, d.ok) :
    Calls Try.prog 5 #[.slice A n c, .bool idle] w fun e w' => e = .returned (.bool true) ∧ Below w.heap.size w w' := by
  have hfa := fault_duties l (show 5 ≤ 15 by omega) idle
  have hok := duties_ok l 5 idle
  have hlen := duties_len l 5 idle
  have hid : idle = true → ∀ j, offF (dutiesF l 5 idle) j = 0 := fun h j => by
    subst h
    rcases hj : (dutiesF l 5 true)[j]? with _ | t
    · simp [offF, hj]
    · rw [at_off hj]
      exact duties_idle l 5 t (List.mem_of_getElem? hj)
  generalize hts : dutiesF l 5 idle = ts at hfa hok hlen hid
  have hdu := fun w' (hb : Below w.heap.size w w') => duties5 A n c l idle w' (hr.below hb) hd hts rfl
  clear hts hr hd
  rcases hs : slowAt ts with _ | j
  · have hR : respondF ts = (outTo ts ts.length, (0, 0)) := by unfold respondF; rw [hfa, if_pos rfl, hs]
    have hol : (outTo ts ts.length).length = ts.length := by simp [outTo]
    have hpl : playedF ts 1200 = ((playF ts 1200).2, (0, 0)) := by
      unfold playedF
      rw [hfa, if_pos rfl, if_neg (by omega), show (1200 : Int).toNat = 1200 from by decide]
    have hrun := runs hok 1200
    have hpx := (play_ok ts 1200).2.1
    generalize (playF ts 1200).2 = X at hpl hrun hpx
    obtain ⟨W, J, T, hm⟩ := meets hok hs hrun idle hid
    refine Meet_core A n c idle w ts ts.length (by omega) hdu (outTo ts ts.length) (fun w' A' c' h1 h2 => ?_) X X.length (fun w' A' c' h1 h2 => ?_) rfl hpx rfl W J T hm
    · have h := Respond_any A' ts.length c' ts w' h1 h2
      rw [hR] at h
      refine h.mono fun e w'' hf => ?_
      obtain ⟨A3, c3, e, ho, hb⟩ := hf
      simp only [hol] at e ho
      exact ⟨A3, c3, e, ho, hb⟩
    · have h := Play_any A' ts.length c' ts 1200 w' h1 h2
      rw [hpl] at h
      refine h.mono fun e w'' hf => ?_
      obtain ⟨A3, c3, e, ho, hb⟩ := hf
      exact ⟨A3, c3, e, ho, hb⟩
  · have hR : respondF ts = ([], (13, (j : Int))) := by unfold respondF; rw [hfa, if_pos rfl, hs]
    refine Meet_slow A n c idle w ts ts.length j hdu fun w' A' c' h1 h2 => ?_
    have h := Respond_any A' ts.length c' ts w' h1 h2
    rw [hR] at h
    refine h.mono fun e w'' hf => ?_
    obtain ⟨A3, c3, e, ho, hb⟩ := hf
    exact ⟨A3, c3, e, ho, hb⟩
theorem walk_Meet (H : Type) (enc : TypeId × Value → H) (w : World) (A : Option Addr) (n c : Nat) (ho : O.Op enc Try.prog w 38 [.slice A n c]) (idle : Bool) :
    Calls Try.prog 5 #[.slice A n c, .bool idle] w fun e w' => e = .returned (.bool true) ∧ Below w.heap.size w w' := by
  obtain ⟨l, hr, hd⟩ := duties_in ho
  exact Meet_any A n c l idle w hr hd
end Go.Proofs.Ythnpeekeoaiaoaa.Task
