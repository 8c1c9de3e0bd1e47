/-
  Step's walk at a block whose methods are known by contracts. Conditions: both lists read; the ints are ints.
-/
import Derived.Test.YthgjjclmepfbpaaDoorBlkA
import Derived.Handy
import Derived.Deep.RegionHeld3
import Derived.Deep.CutBlock
namespace Go.Proofs.YthgjjclmepfbpaaDoor.Blk
open Go.RowKit Go.Proofs.YthgjjclmepfbpaaDoor.W Go.Proofs.YthgjjclmepfbpaaDoor.Ints Go.Proofs.YthgjjclmepfbpaaDoor.Cell Go.Proofs.YthgjjclmepfbpaaDoor.Num

theorem Mem.two {w0 w : World} {Ks : List Box} {Os : List Row} {a b : Row} (h : Mem w0 w Ks (a :: b :: Os)) : Mem w0 w [] [a, b] :=
  ⟨h.bel, (fun _ h => by cases h), fun o ho => h.own o (by rcases List.mem_cons.1 ho with rfl | ho; exact List.mem_cons_self ..; exact List.mem_cons_of_mem _ (by rw [List.mem_singleton.1 ho]; exact List.mem_cons_self ..)), .nil,
    h.disO.sublist (List.Sublist.cons_cons _ (List.Sublist.cons_cons _ (List.nil_sublist _))), (fun _ h => by cases h)⟩
theorem fit_mem {w0 w : World} {Ks : List Box} {Os : List Row} (A : Option Addr) (n c : Nat) (l : List Int) (P : Option Addr) (d : Nat) (pl : List PN) (hr : Rd w 1 A n (ints l)) (h : Hid (Mem w0 w Ks (pinR P d pl :: Os))) (hm : pl.length ≤ 100) (hb : ∀ x ∈ l, I64 x) :
    Calls Tryd.prog 27 #[.slice A n c, .slice P pl.length d] w fun e w' => ∃ g, e = .returned (.slice (some ⟨g, 0, none⟩) pl.length pl.length) ∧ Mem w0 w' Ks (⟨3, 1, some ⟨g, 0, none⟩, pl.length, pl.length, ints (fitF l pl)⟩ :: pinR P d pl :: Os) := by
  refine (fitted_any A n c l P pl.length d pl w hr (h.out.rdO 0 rfl) hm hb).mono ?_
  rintro e w1 ⟨g, rfl, ho, hb⟩
  exact ⟨g, rfl, h.out.made hb ho⟩
theorem pins_hyp {w0 w : World} {Ks : List Box} {Os : List Row} {s : ByteArray} {pl : List PN} (e : pinsL s = pl) (m : Int) (h : Hid (Mem w0 w Ks Os)) (hm : w0.cell? ⟨0, 0, none⟩ = some (.int .i64 m)) (hs : pinOkB s = true) :
    Calls Tryd.prog 21 #[.string s] w fun e w' => ∃ A c, e = .returned (.slice A pl.length c) ∧ Mem w0 w' Ks (pinR A c pl :: Os) := by
  subst e
  exact pins_mem s m h hm hs
set_option maxRecDepth 100000 in
set_option maxHeartbeats 12800000 in
theorem step_known (s0 s1 s2 s3 : ByteArray) (pl1 pl3 : List PN) (N1 N3 NO : Nat) (T bx : TypeId) (cs0 cs1 cs2 : Array Value) (FL FS FW : FuncId) (s i s' o : List Int) (now' : Int) (m : Int) (A : Option Addr) (n c : Nat) (l : List Int) (A' : Option Addr) (n' c' : Nat) (l' : List Int) (now : Int) (w : World) (hm : w.cell? ⟨0, 0, none⟩ = some (.int .i64 m)) (hr : Rd w 1 A n (ints l)) (hr' : Rd w 1 A' n' (ints l')) (hb : ∀ x ∈ l, I64 x) (hb' : ∀ x ∈ l', I64 x) (hn : I64 now)
    (hmd : ∀ w : World, Calls Tryd.prog 20 #[.string s0] w fun e w' => e = .returned (.tuple #[.iface T (.pointer (some ⟨w.heap.size + 1, 0, none⟩)), .agg #[.string s1, .string s2, .string s3]]) ∧ w' = (w.alloc (.cells #[.string s1, .string s2, .string s3] 53)).alloc (.cells cs0 bx))
    (e1 : pinsL s1 = pl1) (e3 : pinsL s3 = pl3) (o1 : pinOkB s1 = true) (o3 : pinOkB s3 = true) (hN1 : pl1.length = N1) (hN3 : pl3.length = N3) (q1 : N1 ≤ 100) (q3 : N3 ≤ 100) (hs : fitF l pl3 = s) (hi : fitF l' pl1 = i) (hnw : wrapF 5 now = now')
    (naL : ∀ (g : Nat) (w : World), Sem.run Tryd.prog (nilAhead 237 T (.pointer (some ⟨g, 0, none⟩)) "plantwright/blocks.load") w = .ok (some false) w) (naS : ∀ (g : Nat) (w : World), Sem.run Tryd.prog (nilAhead 237 T (.pointer (some ⟨g, 0, none⟩)) "plantwright/blocks.step") w = .ok (some false) w)
    (meL : ∀ (g : Nat) (w : World), Sem.run Tryd.prog (method 237 T (.pointer (some ⟨g, 0, none⟩)) "plantwright/blocks.load") w = .ok (FL, .pointer (some ⟨g, 0, none⟩)) w) (meS : ∀ (g : Nat) (w : World), Sem.run Tryd.prog (method 237 T (.pointer (some ⟨g, 0, none⟩)) "plantwright/blocks.step") w = .ok (FS, .pointer (some ⟨g, 0, none⟩)) w) (meW : ∀ (g : Nat) (w : World), Sem.run Tryd.prog (method 237 T (.pointer (some ⟨g, 0, none⟩)) "plantwright/blocks.words") w = .ok (FW, .pointer (some ⟨g, 0, none⟩)) w)
    (caL : ∀ (x : Array Value) (w : World), Sem.run Tryd.prog (callFunc FL x) w = .ok (.enter FL x) w) (caS : ∀ (x : Array Value) (w : World), Sem.run Tryd.prog (callFunc FS x) w = .ok (.enter FS x) w) (caW : ∀ (x : Array Value) (w : World), Sem.run Tryd.prog (callFunc FW x) w = .ok (.enter FW x) w)
    (HL : ∀ (w1 : World) Ks Os (g gf : Nat), Hid (Mem w w1 (⟨g, bx, cs0⟩ :: Ks) (⟨3, 1, some ⟨gf, 0, none⟩, N3, N3, ints s⟩ :: Os)) → Calls Tryd.prog FL #[.pointer (some ⟨g, 0, none⟩), .slice (some ⟨gf, 0, none⟩) N3 N3] w1 fun e w' => e = .returned (.tuple #[]) ∧ Mem w w' (⟨g, bx, cs1⟩ :: Ks) (⟨3, 1, some ⟨gf, 0, none⟩, N3, N3, ints s⟩ :: Os))
    (HS : ∀ (w1 : World) Ks Os (g gi : Nat), Hid (Mem w w1 (⟨g, bx, cs1⟩ :: Ks) (⟨3, 1, some ⟨gi, 0, none⟩, N1, N1, ints i⟩ :: Os)) → Calls Tryd.prog FS #[.pointer (some ⟨g, 0, none⟩), .slice (some ⟨gi, 0, none⟩) N1 N1, .int .i64 now'] w1 fun e w' => ∃ g', e = .returned (.slice (some ⟨g', 0, none⟩) NO NO) ∧ Mem w w' (⟨g, bx, cs2⟩ :: Ks) (⟨3, 1, some ⟨g', 0, none⟩, NO, NO, ints o⟩ :: ⟨3, 1, some ⟨gi, 0, none⟩, N1, N1, ints i⟩ :: Os))
    (HW : ∀ (w1 : World) Ks Os (g : Nat), Hid (Mem w w1 (⟨g, bx, cs2⟩ :: Ks) Os) → Calls Tryd.prog FW #[.pointer (some ⟨g, 0, none⟩)] w1 fun e w' => ∃ g', e = .returned (.slice (some ⟨g', 0, none⟩) N3 N3) ∧ Mem w w' (⟨g, bx, cs2⟩ :: Ks) (⟨3, 1, some ⟨g', 0, none⟩, N3, N3, ints s'⟩ :: Os)) :
    Calls Tryd.prog 15 #[.string s0, .slice A n c, .slice A' n' c', .int .i64 now] w fun e w' => ∃ g2 g3, e = .returned (.tuple #[.slice (some ⟨g2, 0, none⟩) N3 N3, .slice (some ⟨g3, 0, none⟩) NO NO]) ∧ Mem w w' [] [⟨3, 1, some ⟨g2, 0, none⟩, N3, N3, ints s'⟩, ⟨3, 1, some ⟨g3, 0, none⟩, NO, NO, ints o⟩] := by
  have HMD := Lib.hid hmd
  have HML := Lib.hid HL
  have HMS := Lib.hid HS
  have HMW := Lib.hid HW
  have HN := Lib.hid (And.intro hn hnw)
  have HP1 : Hid (∀ (w1 : World) Ks Os, Hid (Mem w w1 Ks Os) → Calls Tryd.prog 21 #[.string s1] w1 fun e w' => ∃ A c, e = .returned (.slice A N1 c) ∧ Mem w w' Ks (⟨49, 2, A, N1, c, pinV pl1⟩ :: Os)) := by
    intro w1 Ks Os h
    rw [← hN1]
    exact pins_hyp e1 m h hm o1
  have HP3 : Hid (∀ (w1 : World) Ks Os, Hid (Mem w w1 Ks Os) → Calls Tryd.prog 21 #[.string s3] w1 fun e w' => ∃ A c, e = .returned (.slice A N3 c) ∧ Mem w w' Ks (⟨49, 2, A, N3, c, pinV pl3⟩ :: Os)) := by
    intro w1 Ks Os h
    rw [← hN3]
    exact pins_hyp e3 m h hm o3
  have HF3 : Hid (∀ (w1 : World) Ks Os P d, Hid (Mem w w1 Ks (⟨49, 2, P, N3, d, pinV pl3⟩ :: Os)) → Calls Tryd.prog 27 #[.slice A n c, .slice P N3 d] w1 fun e w' => ∃ g, e = .returned (.slice (some ⟨g, 0, none⟩) N3 N3) ∧ Mem w w' Ks (⟨3, 1, some ⟨g, 0, none⟩, N3, N3, ints s⟩ :: ⟨49, 2, P, N3, d, pinV pl3⟩ :: Os)) := by
    intro w1 Ks Os P d h
    subst hN3 hs
    exact fit_mem A n c l P d pl3 (hr.below h.out.bel) h q3 hb
  have HF1 : Hid (∀ (w1 : World) Ks Os P d, Hid (Mem w w1 Ks (⟨49, 2, P, N1, d, pinV pl1⟩ :: Os)) → Calls Tryd.prog 27 #[.slice A' n' c', .slice P N1 d] w1 fun e w' => ∃ g, e = .returned (.slice (some ⟨g, 0, none⟩) N1 N1) ∧ Mem w w' Ks (⟨3, 1, some ⟨g, 0, none⟩, N1, N1, ints i⟩ :: ⟨49, 2, P, N1, d, pinV pl1⟩ :: Os)) := by
    intro w1 Ks Os P d h
    subst hN1 hi
    exact fit_mem A' n' c' l' P d pl1 (hr'.below h.out.bel) h q1 hb'
  clear hm hr hr' hmd e1 e3 o1 o3 hN1 hN3 q1 q3 hb hb' hs hi hn hnw HL HS HW
  go_enter Tryd.func15, Tryd.ntmps15
  go_wp2_with fail
  refine (HMD.out _).mono ?_
  rintro e w1 ⟨rfl, rfl⟩
  dsimp only
  go_upto_region 4 with fail
  have M := Lib.hid (((((Mem.start w).alloc 53 #[.string s1, .string s2, .string s3]).alloc bx cs0).alloc 53 #[.string s1, .string s2, .string s3]).upK 1 rfl)
  simp only [World.size_alloc] at M
  generalize World.alloc _ _ = w2 at M ⊢
  obtain ⟨g1, hg1⟩ : ∃ g, w.heap.size + 1 = g := ⟨_, rfl⟩
  rw [hg1] at M ⊢
  clear hg1
  have Mp := Lib.hid M.out.drew
  clear M HMD
  have sp : w2.drew.cell? ⟨g1 + 1, 2, none⟩ = some (.string s3) := Mp.out.cellK 1 rfl 2
  go_cut [] from 20 to 29 (fun wc => ∃ Os, Hid (Mem w wc [⟨g1, bx, cs1⟩, ⟨g1 + 1, 53, #[.string s1, .string s2, .string s3]⟩, ⟨w.heap.size, 53, #[.string s1, .string s2, .string s3]⟩] Os))
  case first =>
    go_region_held3 (fun w' => w'.cell? ⟨g1 + 1, 2, none⟩ = some (.string s3)) (with_reducible assumption) (first
      | (go_at_call 21
         refine (HP3.out _ _ _ Mp).mono ?_
         rintro e wp ⟨Ap, cp, rfl, hmp⟩
         dsimp only
         clear Mp sp
         have Mp := Lib.hid hmp
         have sp : wp.cell? ⟨g1 + 1, 2, none⟩ = some (.string s3) := hmp.cellK 1 rfl 2
         clear hmp)
      | (go_at_call 27
         refine (HF3.out _ _ _ _ _ Mp).mono ?_
         rintro e wp ⟨gf, rfl, hmp⟩
         dsimp only
         clear Mp sp
         have Mp := Lib.hid hmp
         have sp : wp.cell? ⟨g1 + 1, 2, none⟩ = some (.string s3) := hmp.cellK 1 rfl 2
         clear hmp)
      | (refine (HML.out _ _ _ _ _ Mp).mono ?_
         rintro e wp ⟨rfl, hmp⟩
         dsimp only
         clear Mp sp
         have Mp := Lib.hid hmp
         have sp : wp.cell? ⟨g1 + 1, 2, none⟩ = some (.string s3) := hmp.cellK 1 rfl 2
         clear hmp))
    all_goals go_wp2
    all_goals go_meet
    all_goals exact ⟨_, Mp⟩
  case rest =>
    obtain ⟨Os4, M4⟩ := hcut
    clear Mp sp
    obtain ⟨w5, hw5⟩ : ∃ w5 : World, w5 = wc := ⟨_, rfl⟩
    subst hw5
    have Mp := Lib.hid M4.out.drew
    clear M4
    have sp : w5.drew.cell? ⟨g1 + 1, 0, none⟩ = some (.string s1) := Mp.out.cellK 1 rfl 0
    have hn1 := HN.out.1.1
    have hn2 := HN.out.1.2
    go_upto_region 5 with fail
    go_cut [12] from 30 to 41 (fun v12 wc => ∃ g3 Os, v12 = .slice (some ⟨g3, 0, none⟩) NO NO ∧ Hid (Mem w wc [⟨g1, bx, cs2⟩, ⟨g1 + 1, 53, #[.string s1, .string s2, .string s3]⟩, ⟨w.heap.size, 53, #[.string s1, .string s2, .string s3]⟩] (⟨3, 1, some ⟨g3, 0, none⟩, NO, NO, ints o⟩ :: Os)))
    case first =>
      go_region_held3 (fun w' => w'.cell? ⟨g1 + 1, 0, none⟩ = some (.string s1)) (with_reducible assumption) (first
        | (go_at_call 21
           refine (HP1.out _ _ _ Mp).mono ?_
           rintro e wp ⟨Ap, cp, rfl, hmp⟩
           dsimp only
           clear Mp sp
           have Mp := Lib.hid hmp
           have sp : wp.cell? ⟨g1 + 1, 0, none⟩ = some (.string s1) := hmp.cellK 1 rfl 0
           clear hmp)
        | (go_at_call 27
           refine (HF1.out _ _ _ _ _ Mp).mono ?_
           rintro e wp ⟨gf, rfl, hmp⟩
           dsimp only
           clear Mp sp
           have Mp := Lib.hid hmp
           have sp : wp.cell? ⟨g1 + 1, 0, none⟩ = some (.string s1) := hmp.cellK 1 rfl 0
           clear hmp)
        | (go_at_call 28
           refine (Wrap_any 5 now _ hn1 hn2).mono ?_
           rintro e wp ⟨rfl, rfl⟩
           dsimp only
           rw [HN.out.2])
        | (refine (HMS.out _ _ _ _ _ Mp).mono ?_
           rintro e wp ⟨g3, rfl, hmp⟩
           dsimp only
           clear Mp sp
           have Mp := Lib.hid hmp
           have sp : wp.cell? ⟨g1 + 1, 0, none⟩ = some (.string s1) := hmp.cellK 1 rfl 0
           clear hmp))
      all_goals go_wp2
      all_goals go_meet
      all_goals exact ⟨_, _, rfl, Mp⟩
    case rest =>
      obtain ⟨g3, Os5, rfl, M5⟩ := hcut
      clear Mp sp
      go_wp2_with fail
      refine (HMW.out _ _ _ _ M5).mono ?_
      rintro e w6 ⟨g2, rfl, hm6⟩
      dsimp only
      have M6 := Lib.hid hm6
      clear hm6 M5
      go_wp2
      go_ret2
      exact ⟨g2, g3, rfl, Mem.two M6.out⟩
set_option maxRecDepth 100000 in
set_option maxHeartbeats 12800000 in
theorem step_both (s0 s1 s2 s3 : ByteArray) (pl1 pl3 : List PN) (N1 N3 NO : Nat) (T bx : TypeId) (cs0 : Array Value) (FL FS FW : FuncId) (s i s' o : List Int) (now' : Int) (m : Int) (A : Option Addr) (n c : Nat) (l : List Int) (A' : Option Addr) (n' c' : Nat) (l' : List Int) (now : Int) (w : World) (hm : w.cell? ⟨0, 0, none⟩ = some (.int .i64 m)) (hr : Rd w 1 A n (ints l)) (hr' : Rd w 1 A' n' (ints l')) (hb : ∀ x ∈ l, I64 x) (hb' : ∀ x ∈ l', I64 x) (hn : I64 now)
    (hmd : ∀ w : World, Calls Tryd.prog 20 #[.string s0] w fun e w' => e = .returned (.tuple #[.iface T (.pointer (some ⟨w.heap.size + 1, 0, none⟩)), .agg #[.string s1, .string s2, .string s3]]) ∧ w' = (w.alloc (.cells #[.string s1, .string s2, .string s3] 53)).alloc (.cells cs0 bx))
    (e1 : pinsL s1 = pl1) (e3 : pinsL s3 = pl3) (o1 : pinOkB s1 = true) (o3 : pinOkB s3 = true) (hN1 : pl1.length = N1) (hN3 : pl3.length = N3) (q1 : N1 ≤ 100) (q3 : N3 ≤ 100) (hs : fitF l pl3 = s) (hi : fitF l' pl1 = i) (hnw : wrapF 5 now = now')
    (naL : ∀ (g : Nat) (w : World), Sem.run Tryd.prog (nilAhead 237 T (.pointer (some ⟨g, 0, none⟩)) "plantwright/blocks.load") w = .ok (some false) w) (naS : ∀ (g : Nat) (w : World), Sem.run Tryd.prog (nilAhead 237 T (.pointer (some ⟨g, 0, none⟩)) "plantwright/blocks.step") w = .ok (some false) w)
    (meL : ∀ (g : Nat) (w : World), Sem.run Tryd.prog (method 237 T (.pointer (some ⟨g, 0, none⟩)) "plantwright/blocks.load") w = .ok (FL, .pointer (some ⟨g, 0, none⟩)) w) (meS : ∀ (g : Nat) (w : World), Sem.run Tryd.prog (method 237 T (.pointer (some ⟨g, 0, none⟩)) "plantwright/blocks.step") w = .ok (FS, .pointer (some ⟨g, 0, none⟩)) w) (meW : ∀ (g : Nat) (w : World), Sem.run Tryd.prog (method 237 T (.pointer (some ⟨g, 0, none⟩)) "plantwright/blocks.words") w = .ok (FW, .pointer (some ⟨g, 0, none⟩)) w)
    (caL : ∀ (x : Array Value) (w : World), Sem.run Tryd.prog (callFunc FL x) w = .ok (.enter FL x) w) (caS : ∀ (x : Array Value) (w : World), Sem.run Tryd.prog (callFunc FS x) w = .ok (.enter FS x) w) (caW : ∀ (x : Array Value) (w : World), Sem.run Tryd.prog (callFunc FW x) w = .ok (.enter FW x) w)
    (HL : ∀ (w1 : World) Ks Os (g gf : Nat), Hid (Mem w w1 (⟨g, bx, cs0⟩ :: Ks) (⟨3, 1, some ⟨gf, 0, none⟩, N3, N3, ints s⟩ :: Os)) → Calls Tryd.prog FL #[.pointer (some ⟨g, 0, none⟩), .slice (some ⟨gf, 0, none⟩) N3 N3] w1 fun e w' => e = .returned (.tuple #[]) ∧ ∃ gs cc, Mem w w' (⟨g, bx, #[.slice (some ⟨gs, 0, none⟩) N3 cc]⟩ :: Ks) (⟨3, 1, some ⟨gs, 0, none⟩, N3, cc, ints s⟩ :: ⟨3, 1, some ⟨gf, 0, none⟩, N3, N3, ints s⟩ :: Os))
    (HS : ∀ (w1 : World) Ks Os (g gi gs cc : Nat), Hid (Mem w w1 (⟨g, bx, #[.slice (some ⟨gs, 0, none⟩) N3 cc]⟩ :: Ks) (⟨3, 1, some ⟨gi, 0, none⟩, N1, N1, ints i⟩ :: ⟨3, 1, some ⟨gs, 0, none⟩, N3, cc, ints s⟩ :: Os)) → Calls Tryd.prog FS #[.pointer (some ⟨g, 0, none⟩), .slice (some ⟨gi, 0, none⟩) N1 N1, .int .i64 now'] w1 fun e w' => ∃ g' g2 Os', e = .returned (.slice (some ⟨g', 0, none⟩) NO NO) ∧ Mem w w' (⟨g, bx, #[.slice (some ⟨g2, 0, none⟩) N3 N3]⟩ :: Ks) (⟨3, 1, some ⟨g', 0, none⟩, NO, NO, ints o⟩ :: ⟨3, 1, some ⟨g2, 0, none⟩, N3, N3, ints s'⟩ :: Os'))
    (HW : ∀ (w1 : World) Ks Os (g : Nat) (A : Option Addr) (n c : Nat), Hid (Mem w w1 (⟨g, bx, #[.slice A n c]⟩ :: Ks) Os) → Calls Tryd.prog FW #[.pointer (some ⟨g, 0, none⟩)] w1 fun e w' => e = .returned (.slice A n c) ∧ w1 = w') :
    Calls Tryd.prog 15 #[.string s0, .slice A n c, .slice A' n' c', .int .i64 now] w fun e w' => ∃ g2 g3, e = .returned (.tuple #[.slice (some ⟨g2, 0, none⟩) N3 N3, .slice (some ⟨g3, 0, none⟩) NO NO]) ∧ Mem w w' [] [⟨3, 1, some ⟨g2, 0, none⟩, N3, N3, ints s'⟩, ⟨3, 1, some ⟨g3, 0, none⟩, NO, NO, ints o⟩] := by
  have HMD := Lib.hid hmd
  have HML := Lib.hid HL
  have HMS := Lib.hid HS
  have HMW := Lib.hid HW
  have HN := Lib.hid (And.intro hn hnw)
  have HP1 : Hid (∀ (w1 : World) Ks Os, Hid (Mem w w1 Ks Os) → Calls Tryd.prog 21 #[.string s1] w1 fun e w' => ∃ A c, e = .returned (.slice A N1 c) ∧ Mem w w' Ks (⟨49, 2, A, N1, c, pinV pl1⟩ :: Os)) := by
    intro w1 Ks Os h
    rw [← hN1]
    exact pins_hyp e1 m h hm o1
  have HP3 : Hid (∀ (w1 : World) Ks Os, Hid (Mem w w1 Ks Os) → Calls Tryd.prog 21 #[.string s3] w1 fun e w' => ∃ A c, e = .returned (.slice A N3 c) ∧ Mem w w' Ks (⟨49, 2, A, N3, c, pinV pl3⟩ :: Os)) := by
    intro w1 Ks Os h
    rw [← hN3]
    exact pins_hyp e3 m h hm o3
  have HF3 : Hid (∀ (w1 : World) Ks Os P d, Hid (Mem w w1 Ks (⟨49, 2, P, N3, d, pinV pl3⟩ :: Os)) → Calls Tryd.prog 27 #[.slice A n c, .slice P N3 d] w1 fun e w' => ∃ g, e = .returned (.slice (some ⟨g, 0, none⟩) N3 N3) ∧ Mem w w' Ks (⟨3, 1, some ⟨g, 0, none⟩, N3, N3, ints s⟩ :: ⟨49, 2, P, N3, d, pinV pl3⟩ :: Os)) := by
    intro w1 Ks Os P d h
    subst hN3 hs
    exact fit_mem A n c l P d pl3 (hr.below h.out.bel) h q3 hb
  have HF1 : Hid (∀ (w1 : World) Ks Os P d, Hid (Mem w w1 Ks (⟨49, 2, P, N1, d, pinV pl1⟩ :: Os)) → Calls Tryd.prog 27 #[.slice A' n' c', .slice P N1 d] w1 fun e w' => ∃ g, e = .returned (.slice (some ⟨g, 0, none⟩) N1 N1) ∧ Mem w w' Ks (⟨3, 1, some ⟨g, 0, none⟩, N1, N1, ints i⟩ :: ⟨49, 2, P, N1, d, pinV pl1⟩ :: Os)) := by
    intro w1 Ks Os P d h
    subst hN1 hi
    exact fit_mem A' n' c' l' P d pl1 (hr'.below h.out.bel) h q1 hb'
  clear hm hr hr' hmd e1 e3 o1 o3 hN1 hN3 q1 q3 hb hb' hs hi hn hnw HL HS HW
  go_enter Tryd.func15, Tryd.ntmps15
  go_wp2_with fail
  refine (HMD.out _).mono ?_
  rintro e w1 ⟨rfl, rfl⟩
  dsimp only
  go_upto_region 4 with fail
  have M := Lib.hid (((((Mem.start w).alloc 53 #[.string s1, .string s2, .string s3]).alloc bx cs0).alloc 53 #[.string s1, .string s2, .string s3]).upK 1 rfl)
  simp only [World.size_alloc] at M
  generalize World.alloc _ _ = w2 at M ⊢
  obtain ⟨g1, hg1⟩ : ∃ g, w.heap.size + 1 = g := ⟨_, rfl⟩
  rw [hg1] at M ⊢
  clear hg1
  have Mp := Lib.hid M.out.drew
  clear M HMD
  have sp : w2.drew.cell? ⟨g1 + 1, 2, none⟩ = some (.string s3) := Mp.out.cellK 1 rfl 2
  go_cut [] from 20 to 29 (fun wc => ∃ gs cc Os, Hid (Mem w wc [⟨g1, bx, #[.slice (some ⟨gs, 0, none⟩) N3 cc]⟩, ⟨g1 + 1, 53, #[.string s1, .string s2, .string s3]⟩, ⟨w.heap.size, 53, #[.string s1, .string s2, .string s3]⟩] (⟨3, 1, some ⟨gs, 0, none⟩, N3, cc, ints s⟩ :: Os)))
  case first =>
    go_region_held3 (fun w' => w'.cell? ⟨g1 + 1, 2, none⟩ = some (.string s3)) (with_reducible assumption) (first
      | (go_at_call 21
         refine (HP3.out _ _ _ Mp).mono ?_
         rintro e wp ⟨Ap, cp, rfl, hmp⟩
         dsimp only
         clear Mp sp
         have Mp := Lib.hid hmp
         have sp : wp.cell? ⟨g1 + 1, 2, none⟩ = some (.string s3) := hmp.cellK 1 rfl 2
         clear hmp)
      | (go_at_call 27
         refine (HF3.out _ _ _ _ _ Mp).mono ?_
         rintro e wp ⟨gf, rfl, hmp⟩
         dsimp only
         clear Mp sp
         have Mp := Lib.hid hmp
         have sp : wp.cell? ⟨g1 + 1, 2, none⟩ = some (.string s3) := hmp.cellK 1 rfl 2
         clear hmp)
      | (refine (HML.out _ _ _ _ _ Mp).mono ?_
         rintro e wp ⟨rfl, gs, cc, hmp⟩
         dsimp only
         clear Mp sp
         have Mp := Lib.hid hmp
         have sp : wp.cell? ⟨g1 + 1, 2, none⟩ = some (.string s3) := hmp.cellK 1 rfl 2
         clear hmp))
    all_goals go_wp2
    all_goals go_meet
    all_goals exact ⟨_, _, _, Mp⟩
  case rest =>
    obtain ⟨gs, cc, Os4, M4⟩ := hcut
    clear Mp sp
    obtain ⟨w5, hw5⟩ : ∃ w5 : World, w5 = wc := ⟨_, rfl⟩
    subst hw5
    have Mp := Lib.hid M4.out.drew
    clear M4
    have sp : w5.drew.cell? ⟨g1 + 1, 0, none⟩ = some (.string s1) := Mp.out.cellK 1 rfl 0
    have hn1 := HN.out.1.1
    have hn2 := HN.out.1.2
    go_upto_region 5 with fail
    go_cut [12] from 30 to 41 (fun v12 wc => ∃ g3 g2 Os, v12 = .slice (some ⟨g3, 0, none⟩) NO NO ∧ Hid (Mem w wc [⟨g1, bx, #[.slice (some ⟨g2, 0, none⟩) N3 N3]⟩, ⟨g1 + 1, 53, #[.string s1, .string s2, .string s3]⟩, ⟨w.heap.size, 53, #[.string s1, .string s2, .string s3]⟩] (⟨3, 1, some ⟨g3, 0, none⟩, NO, NO, ints o⟩ :: ⟨3, 1, some ⟨g2, 0, none⟩, N3, N3, ints s'⟩ :: Os)))
    case first =>
      go_region_held3 (fun w' => w'.cell? ⟨g1 + 1, 0, none⟩ = some (.string s1)) (with_reducible assumption) (first
        | (go_at_call 21
           refine (HP1.out _ _ _ Mp).mono ?_
           rintro e wp ⟨Ap, cp, rfl, hmp⟩
           dsimp only
           clear Mp sp
           have Mp := Lib.hid hmp
           have sp : wp.cell? ⟨g1 + 1, 0, none⟩ = some (.string s1) := hmp.cellK 1 rfl 0
           clear hmp)
        | (go_at_call 27
           refine (HF1.out _ _ _ _ _ Mp).mono ?_
           rintro e wp ⟨gf, rfl, hmp⟩
           dsimp only
           clear Mp sp
           have Mp := Lib.hid hmp
           have sp : wp.cell? ⟨g1 + 1, 0, none⟩ = some (.string s1) := hmp.cellK 1 rfl 0
           clear hmp)
        | (go_at_call 28
           refine (Wrap_any 5 now _ hn1 hn2).mono ?_
           rintro e wp ⟨rfl, rfl⟩
           dsimp only
           rw [HN.out.2])
        | (refine (HMS.out _ _ _ _ _ _ _ ((Mp.out.upO 2 rfl).upO 1 rfl)).mono ?_
           rintro e wp ⟨g3, g2, Osx, rfl, hmp⟩
           dsimp only
           clear Mp sp
           have Mp := Lib.hid hmp
           have sp : wp.cell? ⟨g1 + 1, 0, none⟩ = some (.string s1) := hmp.cellK 1 rfl 0
           clear hmp))
      all_goals go_wp2
      all_goals go_meet
      all_goals exact ⟨_, _, _, rfl, Mp⟩
    case rest =>
      obtain ⟨g3, g2, Os5, rfl, M5⟩ := hcut
      clear Mp sp
      go_wp2_with fail
      refine (HMW.out _ _ _ _ _ _ _ M5).mono ?_
      rintro e w6 ⟨rfl, rfl⟩
      dsimp only
      go_wp2
      go_ret2
      exact ⟨g2, g3, rfl, Mem.two (M5.out.upO 1 rfl)⟩
end Go.Proofs.YthgjjclmepfbpaaDoor.Blk
