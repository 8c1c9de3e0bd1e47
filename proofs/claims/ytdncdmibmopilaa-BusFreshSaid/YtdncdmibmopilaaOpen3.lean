/-
  What a frame tells. Conditions: the bytes read, within the reach.
-/
import Derived.Test.YtdncdmibmopilaaOpen2
import Derived.Test.YtdncdmibmopilaaBus1
namespace Go.Proofs.Ytdncdmibmopilaa.Bus
open Go.RowKit Go.Shelf Go.Proofs.Ytdncdmibmopilaa.W Go.Proofs.Ytdncdmibmopilaa.Ints Go.Proofs.Ytdncdmibmopilaa.Byt Go.Proofs.Ytdncdmibmopilaa.Num

section
variable {F : Fence} {n : Nat} {P : Program}
theorem step_append_in (w : World) {ops : Array Oper} {o : Oper} {a : Act} {K : Act → World → Prop} {Q : Exit → Act → World → Prop} {E : Prop}
    (hg : o.guard = none) (s x : Operand) (t : TypeId) (hop : o.op = Op.call { callee := Callee.builtin Builtin.append, args := #[s, x], argTypes := #[t, t] })
    (base : Nat) (e : TypeId) (i : TypeInfo) (z : Value) (size bytes : Nat) (h1 : P.underlying t = some (.slice e)) (h2 : P.info? e = some i) (h3 : i.zero = some z) (h4 : i.size = size) (h5 : i.bytes = bytes) (h6 : z.cells.size = size) (h7 : 0 < size)
    (v : Value) (k : Nat) (xs : List Value) (hs : a.eval s = v) (hown : w.ownsRow base e size v k xs) (ad : Addr) (m c : Nat) (news : List Value) (hx : a.eval x = .slice (some ad) m c) (hn : news.length = m * size)
    (hc : ∀ j u, news[j]? = some u → w.cell? (ad.add j) = some u) (h1c : ∀ u ∈ news, u.oneCell' = true) (b1 : k + m ≤ maxLen) (b2 : (k + m) * bytes ≤ 140737488355328) (b3 : base ≤ w.heap.size)
    (hK : ∀ v' w', w'.ownsRow base e size v' (k + m) (xs ++ news) → w.grownBy w' v.ownBlock → K (a.put o.dst v') w') :
    if Region.wanted o (yielded ops a.tmps) = true then Oper.wpIn F n P o a w K Q else E := by
  rw [if_pos (by simp [Region.wanted, hg])]
  obtain ⟨v', w', hrun, r1, r2, _⟩ := run_append_own (P := P) w base t o.type e i z size bytes h1 h2 h3 h4 h5 h6 h7 v k xs hown ad m c news hn hc h1c b1 b2 b3
  unfold Oper.wpIn
  refine ⟨?_, ?_⟩
  · simp [Oper.about, hop, resolve, Target.leads, Sem.run_pure]
  · rw [Oper.semAt_plain F _ _ (by rw [hop]; intro c hc'; cases hc')]
    simp [execOp, hop, resolve, invoke, builtin, hs, hx, hrun, Result.andThen]
    exact hK _ _ r1 r2
end

theorem own_ne {W : World} {base : Nat} {e : TypeId} {size : Nat} {v : Value} {k : Nat} {xs : List Value} (h : W.ownsRow base e size v k xs) {j : Nat} (hj : j < base) : some j ≠ v.ownBlock := by
  rcases h.2 with ⟨rfl, _⟩ | ⟨g, cap, cur, rfl, hb, _⟩
  · simp [Value.ownBlock]
  · intro e'
    simp [Value.ownBlock] at e'
    omega
theorem keeps_drewN (w : World) (q : Nat) : KeepsOthers w (w.drewN q) := KeepsOthers.of_grownBy (grown_drewN w q) (fun _ _ e => by cases e)

theorem wide_asked {P : Program} {o : Oper} {a : Act} {C : World → Prop} : Oper.askedIn Fence.wide P o a C = True := eq_true fun _ _ _ _ => trivial
theorem wide_fn (f : FuncId) : Fence.wide.fn f = True := rfl
attribute [local go_sem] Oper.semAt_some wide_asked wide_fn

abbrev bAt (bs : List UInt8) (i : Nat) : Nat := (bs.getD i 0).toNat
def tellW (bs : List UInt8) (k : Nat) : Int := (bAt bs (3 + 2 * k) : Int) + 256 * (bAt bs (3 + 2 * k + 1) : Int)
def told (bs : List UInt8) (k : Nat) : List Int := (List.range k).map (tellW bs)
theorem told_len (bs : List UInt8) (k : Nat) : (told bs k).length = k := by simp [told]
theorem told_succ (bs : List UInt8) (k : Nat) : told bs (k + 1) = told bs k ++ [tellW bs k] := by simp [told, List.range_succ]
def openF (bs : List UInt8) : (Int × Int × List Int) × Int :=
  if bs.length < 5 ∨ bs.length ≠ 5 + 2 * bAt bs 2 then ((0, 0, []), 4)
  else if ((bAt bs (bs.length - 2) : Int) + 256 * (bAt bs (bs.length - 2 + 1) : Int)) ≠ (crc (bs.take (bs.length - 2)) : Int) then ((0, 0, []), 17)
  else if 247 < bAt bs 0 then ((0, 0, []), 3)
  else if 60 < bAt bs 2 then ((0, 0, []), 4)
  else (((bAt bs 0 : Int), (bAt bs 1 : Int), told bs (bAt bs 2)), 0)
def FreshO (w w' : World) (e : Ending) (F : (Int × Int × List Int) × Int) : Prop :=
  ∃ A c, e = .returned (.tuple #[.int .i64 F.1.1, .int .i64 F.1.2.1, .slice A F.1.2.2.length c, .int .i64 F.2]) ∧ w'.ownsRow w.heap.size 3 1 (.slice A F.1.2.2.length c) F.1.2.2.length (ints F.1.2.2) ∧ Below w.heap.size w w'

def valsF (bs : List UInt8) {m : Nat} (pre : List (Fin m)) : List Value := pre.map fun k => .int .i64 (tellW bs k.1)
theorem vals_succ (bs : List UInt8) {m : Nat} (pre : List (Fin m)) (x : Fin m) : valsF bs (pre ++ [x]) = valsF bs pre ++ [.int .i64 (tellW bs x.1)] := by simp [valsF]
theorem vals_upF (bs : List UInt8) {m : Nat} : ∀ {k : Nat}, k ≤ m → valsF bs (upF m k) = ints (told bs k)
  | 0, _ => rfl
  | k + 1, h => by rw [upF_succ (by omega), vals_succ, vals_upF bs (by omega), told_succ]; simp
theorem fault_o (w : World) (k : Int) : FreshO w (w.alloc (.cells #[.slice none 0 0] 22)) (.returned (.tuple #[.int .i64 0, .int .i64 0, .slice none 0 0, .int .i64 k])) ((0, 0, []), k) :=
  ⟨none, 0, rfl, World.ownsRow_nil _ _ _ _, below_alloc _⟩
theorem fault_od (w : World) (k : Int) (q : Nat) : FreshO w ((w.alloc (.cells #[.slice none 0 0] 22)).drewN q) (.returned (.tuple #[.int .i64 0, .int .i64 0, .slice none 0 0, .int .i64 k])) ((0, 0, []), k) :=
  ⟨none, 0, rfl, World.ownsRow_nil _ _ _ _, below_drewN (below_alloc _) _⟩
theorem fault_s {w W1 : World} (B1 : Below w.heap.size w W1) (k : Int) : FreshO w (W1.setCell ⟨w.heap.size, 0, none⟩ (.slice none 0 0)) (.returned (.tuple #[.int .i64 0, .int .i64 0, .slice none 0 0, .int .i64 k])) ((0, 0, []), k) :=
  ⟨none, 0, rfl, World.ownsRow_nil _ _ _ _, B1.setCell (p := ⟨w.heap.size, 0, none⟩) (Nat.le_refl _) _⟩
theorem rd_take {w : World} {A : Option Addr} {n : Nat} {xs : List Value} (h : Rd w 1 A n xs) (k : Nat) (hk : k ≤ n) : Rd w 1 A k (xs.take k) := by
  refine ⟨by have := h.1; simp; omega, fun hn => ?_⟩
  obtain ⟨b, o, e, hc⟩ := h.2 (by omega)
  refine ⟨b, o, e, fun j u hu => hc j u ?_⟩
  rw [List.getElem?_take] at hu
  split at hu
  · exact hu
  · cases hu
theorem take_byts (bs : List UInt8) (k : Nat) : (byts bs).take k = byts (bs.take k) := by simp [byts, List.map_take]

theorem sum_any' (A : Option Addr) (n c : Nat) (bs : List UInt8) (w : World) (hr : Rd w 1 A n (byts bs)) (hn : n ≤ maxLen) :
    Calls Try.prog 39 #[.slice A n c] w fun e w' => e = .returned (.int .u16 (crc bs : Int)) ∧ w' = w := by
  refine (sum_any A n c bs w hr hn).mono ?_
  rintro e w' ⟨rfl, rfl⟩
  exact ⟨rfl, rfl⟩

set_option maxRecDepth 100000 in
set_option maxHeartbeats 6400000 in
theorem Open_any (A : Option Addr) (n c : Nat) (bs : List UInt8) (w : World) (hr : Rd w 1 A n (byts bs)) (hnc : n ≤ c) (hn : n ≤ 140737488351232) (hc0 : c ≤ maxLen) :
    Calls Try.prog 15 #[.slice A n c] w fun e w' => FreshO w w' e (openF bs) := by
  have hc : c ≤ 9223372036854775807 := hc0
  clear hc0
  obtain ⟨i0, hi0, hz0, hz1, hz2⟩ := info_parts int_info
  have hl := brd_len hr
  generalize hT : openF bs = T
  have HT := Lib.hid hT
  clear hT
  refine (callsIn_wide (n := 5)).1 ?_
  refine callsIn_of_wp_marks Try.func15 rfl trivial ?_ rfl
  simp only [Try.ntmps15, List.size_toArray, List.length_cons, List.length_nil, Nat.reduceAdd, Nat.reduceSub, Array.replicate_succ, Array.replicate_zero, List.push_toArray, List.append_toArray, List.nil_append, List.cons_append]
  have cb := (Boxed.new w 22 (.slice none 0 0)).cell
  by_cases h5 : n < 5
  · have hF : T = ((0, 0, []), 4) := by rw [← HT.out]; unfold openF; rw [if_pos (.inl (by omega))]
    subst hF
    gi_wp2
    exact ⟨_, by simp [results, Try.results15, go_sem, cb], fault_o w 4⟩
  · obtain ⟨b, o, rfl, hb⟩ := brd_at hr (by omega)
    have g0 := hb 0 (by omega)
    have g1 := hb 1 (by omega)
    have g2 := hb 2 (by omega)
    have gx := hb (n - 2) (by omega)
    have gy := hb (n - 2 + 1) (by omega)
    rw [Nat.add_zero] at g0
    rw [← Nat.add_assoc] at gy
    have u0 : bAt bs 0 < 256 := (bs.getD 0 0).toNat_lt
    have u1 : bAt bs 1 < 256 := (bs.getD 1 0).toNat_lt
    have u2 : bAt bs 2 < 256 := (bs.getD 2 0).toNat_lt
    obtain ⟨p0, e0⟩ : ∃ p, p = bAt bs 0 := ⟨_, rfl⟩
    obtain ⟨p1, e1⟩ : ∃ p, p = bAt bs 1 := ⟨_, rfl⟩
    obtain ⟨m, e2⟩ : ∃ p, p = bAt bs 2 := ⟨_, rfl⟩
    rw [show (bs.getD 0 0).toNat = p0 from e0.symm] at g0
    rw [show (bs.getD 1 0).toNat = p1 from e1.symm] at g1
    rw [show (bs.getD 2 0).toNat = m from e2.symm] at g2
    rw [← e0] at u0
    rw [← e1] at u1
    rw [← e2] at u2
    have bl := lt_of_cell g0
    have E0 := Lib.hid e0
    have E1 := Lib.hid e1
    have E2 := Lib.hid e2
    have HB := Lib.hid hb
    have HR := Lib.hid hr
    clear e0 e1 e2 hb hr
    have eq4 : ∀ q : Nat, n = 5 + 2 * q ↔ (n : Int) = 5 + 2 * (q : Int) := fun q => by omega
    clear eq4
    by_cases hsz : n ≠ 5 + 2 * m
    · have hF : T = ((0, 0, []), 4) := by rw [← HT.out]; unfold openF; rw [if_pos (.inr (by rw [hl, ← E2.out]; exact hsz))]
      subst hF
      have tb : ((n : Int) != 5 + 2 * (m : Int)) = true := by simp; omega
      have tc : decide ((n : Int) < 5) = false := by simp; omega
      clear hsz
      gi_wp2
      exact ⟨_, by simp [results, Try.results15, go_sem, cb], fault_o w 4⟩
    · have hsz2 := Lib.hid (show n = 5 + 2 * m by omega)
      have tb : ((n : Int) != 5 + 2 * (m : Int)) = false := by simp; omega
      have tc : decide ((n : Int) < 5) = false := by simp; omega
      clear hsz
      have ht : Rd w 1 (some ⟨b, o, none⟩) (n - 2) (byts (bs.take (n - 2))) := by rw [← take_byts]; exact rd_take HR.out _ (by omega)
      have HTk := Lib.hid ht
      clear ht
      have hk := crc_lt (bs.take (n - 2))
      obtain ⟨x, ex⟩ : ∃ x, x = bs.getD (n - 2) 0 := ⟨_, rfl⟩
      obtain ⟨y, ey⟩ : ∃ x, x = bs.getD (n - 2 + 1) 0 := ⟨_, rfl⟩
      rw [← ex] at gx
      rw [← ey] at gy
      have hx := x.toNat_lt
      have hy := y.toNat_lt
      have hS : ∀ W, Calls Try.prog 39 #[.slice (some ⟨b, o, none⟩) (n - 2) c] ((w.alloc (.cells #[.slice none 0 0] 22)).drewN W) fun e w' => e = .returned (.int .u16 (crc (bs.take (n - 2)) : Int)) ∧ w' = (w.alloc (.cells #[.slice none 0 0] 22)).drewN W := fun W =>
        sum_any' (some ⟨b, o, none⟩) (n - 2) c (bs.take (n - 2)) _ ((HTk.out.alloc _).drewN _) (by unfold maxLen; omega)
      obtain ⟨K, eK⟩ : ∃ K, K = crc (bs.take (n - 2)) := ⟨_, rfl⟩
      rw [← eK] at hS hk
      have HS := Lib.hid hS
      have EX := Lib.hid ex
      have EY := Lib.hid ey
      have EK := Lib.hid eK
      clear ex ey eK hS HTk
      gi_wp2
      have gx' : ∀ q, ((w.alloc (.cells #[.slice none 0 0] 22)).drewN q).cell? ⟨b, o + (n - 2), none⟩ = some (.int .u8 (x.toNat : Int)) := fun q => ((below_drewN (below_alloc _) q).cell bl).trans gx
      have gy' : ∀ q, ((w.alloc (.cells #[.slice none 0 0] 22)).drewN q).cell? ⟨b, o + (n - 2) + 1, none⟩ = some (.int .u8 (y.toNat : Int)) := fun q => ((below_drewN (below_alloc _) q).cell bl).trans gy
      have GX := Lib.hid gx'
      have GY := Lib.hid gy'
      clear gx' gy'
      gi_quiet (first | (gi_at_call 38; exact CallsIn.quiet_of (callsIn_wide.2 (get_any b (o + (n - 2)) _ _ x y _ (GX.out _) (GY.out _) (by omega)))) | (gi_at_call 39; exact CallsIn.quiet_of_same (callsIn_wide.2 (HS.out _))))
      generalize hW1 : World.drewN _ nq = W1
      have bx : Boxed W1 w.heap.size 22 (.slice none 0 0) := by rw [← hW1]; exact Boxed.new w _ _
      have B1 : Below w.heap.size w W1 := by rw [← hW1]; exact below_drewN (below_alloc _) _
      have z1 : W1.heap.size = w.heap.size + 1 := by rw [← hW1]; exact World.size_alloc _ _
      clear hW1 GX GY HS
      have c1 := bx.cell
      have f1 := bx.frozen
      have c2 := (bx.set (.slice none 0 0)).cell
      have q0 := (B1.cell (p := ⟨b, o, none⟩) bl).trans g0
      have q1 := (B1.cell (p := ⟨b, o + 1, none⟩) bl).trans g1
      have q2 := (B1.cell (p := ⟨b, o + 2, none⟩) bl).trans g2
      have HG0 := Lib.hid g0
      have HG1 := Lib.hid g1
      clear gx gy g0 g1 g2 cb
      by_cases hxy : ((x.toNat : Int) + 256 * (y.toNat : Int) != (K : Int)) = true
      · have hF : T = ((0, 0, []), 17) := by
          rw [← HT.out]; unfold openF
          rw [hl, if_neg (by rw [← E2.out, hsz2.out]; omega), if_pos (by simp only [bAt]; rw [← EX.out, ← EY.out, ← EK.out]; simpa using hxy)]
        subst hF
        gi_wp2
        exact ⟨_, by simp [results, Try.results15, go_sem, c2], fault_s B1 17⟩
      · rw [Bool.not_eq_true] at hxy
        have hS0 : ¬(n < 5 ∨ n ≠ 5 + 2 * bAt bs 2) := by rw [← E2.out, hsz2.out]; omega
        have hX0 : ¬(((bAt bs (n - 2) : Int) + 256 * (bAt bs (n - 2 + 1) : Int)) ≠ (crc (bs.take (n - 2)) : Int)) := by simp only [bAt]; rw [← EX.out, ← EY.out, ← EK.out]; simpa using hxy
        by_cases h247 : 247 < p0
        · have hF : T = ((0, 0, []), 3) := by
            rw [← HT.out]; unfold openF
            rw [hl, if_neg hS0, if_neg hX0, if_pos (by rw [← E0.out]; exact h247)]
          subst hF
          gi_wp2_with (gi_at_call 32; refine (callsIn_wide.2 (within_any _ _ _)).mono ?_; rintro e w' ⟨rfl, rfl⟩; rw [show (decide ((0 : Int) ≤ (p0 : Int)) && decide ((p0 : Int) ≤ 247)) = false from by simp; omega])
          exact ⟨_, by simp [results, Try.results15, go_sem, c2], fault_s B1 3⟩
        · by_cases h60 : 60 < m
          · have hF : T = ((0, 0, []), 4) := by
              rw [← HT.out]; unfold openF
              rw [hl, if_neg hS0, if_neg hX0, if_neg (by rw [← E0.out]; exact h247), if_pos (by rw [← E2.out]; exact h60)]
            subst hF
            gi_wp2_with (gi_at_call 32; refine (callsIn_wide.2 (within_any _ _ _)).mono ?_; rintro e w' ⟨rfl, rfl⟩; rw [show (decide ((0 : Int) ≤ (p0 : Int)) && decide ((p0 : Int) ≤ 247)) = true from by simp; omega])
            exact ⟨_, by simp [results, Try.results15, go_sem, c2], fault_s B1 4⟩
          · have hF : T = (((p0 : Int), (p1 : Int), told bs m), 0) := by
              rw [← HT.out]; unfold openF
              rw [hl, if_neg hS0, if_neg hX0, if_neg (by rw [← E0.out]; exact h247), if_neg (by rw [← E2.out]; exact h60), ← E0.out, ← E1.out, ← E2.out]
            subst hF
            clear hS0 hX0
            gi_wp2_with (gi_at_call 32; refine (callsIn_wide.2 (within_any _ _ _)).mono ?_; rintro e w' ⟨rfl, rfl⟩; rw [show (decide ((0 : Int) ≤ (p0 : Int)) && decide ((p0 : Int) ≤ 247)) = true from by simp; omega])
            rw [show n - 2 - 3 = 2 * m from by rw [hsz2.out]; omega]
            refine (chunk_in _ _ _ _ _).mono ?_
            rintro e w2 ⟨rfl, rfl⟩
            gi_wp2
            have bS0 := Boxed.new W1 31 (.slice (some ⟨b, o + 3, none⟩) (2 * m) (c - 3))
            have bN := Boxed.new (W1.alloc (.cells #[.slice (some ⟨b, o + 3, none⟩) (2 * m) (c - 3)] 31)) 3 (.int .i64 2)
            have bS := bS0.alloc (.cells #[.int .i64 2] 3)
            have bR := (bx.alloc (.cells #[.slice (some ⟨b, o + 3, none⟩) (2 * m) (c - 3)] 31)).alloc (.cells #[.int .i64 2] 3)
            have B0 := (B1.alloc (by omega) (.cells #[.slice (some ⟨b, o + 3, none⟩) (2 * m) (c - 3)] 31)).alloc (by simp only [World.size_alloc]; omega) (.cells #[.int .i64 2] 3)
            rw [World.size_alloc, z1] at bN
            rw [z1] at bS
            clear bS0 c1 f1 c2 q0 q1 q2
            have zW : ((W1.alloc (.cells #[.slice (some ⟨b, o + 3, none⟩) (2 * m) (c - 3)] 31)).alloc (.cells #[.int .i64 2] 3)).heap.size = w.heap.size + 3 := by simp only [World.size_alloc]; omega
            generalize hW0 : World.alloc (World.alloc W1 _) _ = W0 at *
            clear hW0
            refine wpIn_rangeFunc_ownG rfl (by omega) (gf := 47) (lb := #[.pointer (some ⟨w.heap.size + 1, 0, none⟩), .pointer (some ⟨w.heap.size + 1 + 1, 0, none⟩)]) rfl trivial (enters_of Try.func47 (by kernel_rfl) rfl)
              (chunk_stops 4 (by omega) (w.heap.size + 1) (w.heap.size + 1 + 1) w.heap.size b (o + 3) m (c - 3) (by omega) (by have := hsz2.out; omega) (by unfold maxLen; omega) W0 bS bN) (fun h k => kpC_t h k) (kpC_b (by omega) (by omega) (by omega)) (Below.refl _ _) (fun _ => rfl)
              (fun (pre : List (Fin m)) W => (∃ v, Boxed W w.heap.size 22 v ∧ W.ownsRow W0.heap.size 3 1 v pre.length (valsF bs pre) ∧ (∃ A d, v = .slice A pre.length d)) ∧ (Below w.heap.size w W ∧ W0.heap.size ≤ W.heap.size))
              (fun _ _ _ => False)
              (OwnFrom.and (Own.from (holdsRow_own W0.heap.size w.heap.size 22 3 1 (fun (pre : List (Fin m)) => pre.length) (fun pre => valsF bs pre) (fun pre v => ∃ A d, v = .slice A pre.length d)) _) (OwnFrom.and (ownFrom_below (Nat.le_refl _) (by omega)) (fun _ _ _ _ hs hg _ => Nat.le_trans hs hg.size)))
              (fun _ _ _ _ _ hs _ _ => hs)
              ⟨⟨_, bR, World.ownsRow_nil _ _ _ _, none, 0, rfl⟩, B0, Nat.le_refl _⟩ ?a1 ?assign ?body ?done ?stop
            case assign =>
              intro l x W K hK
              gi_wp2
              exact hK
            case body =>
              rintro l pre x W ⟨⟨v, hv, hrow, A', d', rfl⟩, hB, hzW⟩ hlt
              have hvc := hv.cell
              have hvf := hv.frozen
              have a0 : o + 3 + 2 * x.1 = o + (3 + 2 * x.1) := by omega
              have a1 : o + 3 + 2 * x.1 + 1 = o + (3 + 2 * x.1 + 1) := by omega
              have hm2 : 3 + 2 * x.1 + 1 < n := by have := hsz2.out; omega
              have y0 : W.cell? ⟨b, o + 3 + 2 * x.1, none⟩ = some (.int .u8 ((bs.getD (3 + 2 * x.1) 0).toNat : Int)) := by
                rw [a0]; exact (hB.cell (p := ⟨b, o + (3 + 2 * x.1), none⟩) bl).trans (HB.out _ (by omega))
              have y1 : W.cell? ⟨b, o + 3 + 2 * x.1 + 1, none⟩ = some (.int .u8 ((bs.getD (3 + 2 * x.1 + 1) 0).toNat : Int)) := by
                rw [a1]; exact (hB.cell (p := ⟨b, o + (3 + 2 * x.1 + 1), none⟩) bl).trans (HB.out _ hm2)
              clear a0 a1
              obtain ⟨r0, er0⟩ : ∃ r, r = bs.getD (3 + 2 * x.1) 0 := ⟨_, rfl⟩
              obtain ⟨r1, er1⟩ : ∃ r, r = bs.getD (3 + 2 * x.1 + 1) 0 := ⟨_, rfl⟩
              have ET : Hid (tellW bs x.1 = (r0.toNat : Int) + 256 * (r1.toNat : Int)) := by rw [er0, er1]; exact (rfl : tellW bs x.1 = _)
              rw [← er0] at y0
              rw [← er1] at y1
              clear er0 er1
              have hmx : Try.prog.follows .mixedOrders = true := by kernel_rfl
              have hva : ∀ (q : Nat) (u : Value), ((W.drewN q).alloc (.cells #[u] 3)).cell? ⟨w.heap.size, 0, none⟩ = some (.slice A' pre.length d') := fun q u => (Boxed.alloc (show Boxed (W.drewN q) w.heap.size 22 (.slice A' pre.length d') from hv) _).cell
              have hlW : w.heap.size < W.heap.size := hv.lt
              gi_wp2
              refine wpIn_region_any hmx ?_
              change wpAnyIn _ _ _ _ _ _ _ _ _ (World.drew _)
              refine wpAnyIn_ready (rs := [0, 1]) (by kernel_rfl) (by simp) ?_
              refine AllReadyIn.cons rfl (fun K hK => ?_) (AllReadyIn.cons rfl (fun K hK => ?_) AllReadyIn.nil)
              · go_simp
                refine hK _ _ ?_
                clear hK K
                refine wpAnyIn_ready (rs := [1]) (by kernel_rfl) (by simp) ?_
                refine AllReadyIn.cons rfl (fun K hK => ?_) AllReadyIn.nil
                go_simp
                refine hK _ _ ?_
                clear hK K
                refine wpAnyIn_ready (rs := [2]) (by kernel_rfl) (by simp) ?_
                refine AllReadyIn.cons rfl (fun K hK => ?_) AllReadyIn.nil
                go_simp
                refine (CallsIn.inRound l (callsIn_wide.2 (get_any b (o + 3 + 2 * x.1) 2 2 r0 r1 W.drew y0 y1 (by omega)))).mono ?_
                rintro e w3 ⟨rfl, q, rfl⟩
                refine hK _ _ ?_
                clear hK K
                refine wpAnyIn_ready (rs := [3]) (by kernel_rfl) (by simp) ?_
                refine AllReadyIn.cons rfl (fun K hK => ?_) AllReadyIn.nil
                go_simp
                refine hK _ _ ?_
                clear hK K
                refine wpAnyIn_ready (rs := [4]) (by kernel_rfl) (by simp) ?_
                refine AllReadyIn.cons rfl (fun K hK => ?_) AllReadyIn.nil
                refine step_append_in _ rfl (.tmp 50) (.tmp 53) 22 rfl W0.heap.size 3 i0 _ 1 8 Try.underlying22 hi0 hz0 hz1 hz2 rfl (by omega) (.slice A' pre.length d') pre.length (valsF bs pre) rfl ((show (W.drewN (1 + q)).ownsRow W0.heap.size 3 1 (.slice A' pre.length d') pre.length (valsF bs pre) from hrow).alloc _) ⟨W.heap.size, 0, none⟩ 1 1 [.int .i64 ((r0.toNat : Int) + 256 * (r1.toNat : Int))] rfl rfl (cell_one_new (W.drewN (1 + q)) _ _) (by simp [Value.oneCell']) (by unfold maxLen; omega) (by omega) (by simp only [World.size_alloc]; exact Nat.le_succ_of_le hzW) ?_
                intro v' w1 hown' hgrow
                obtain ⟨g', cap', rfl⟩ := ownsRow_succ hown'
                obtain ⟨hv1, hv2, hr2, hk2, hb2⟩ := Boxed.appended (W := W.drewN (1 + q)) (n₀ := w.heap.size) (show Boxed (W.drewN (1 + q)) w.heap.size 22 (.slice A' pre.length d') from hv) (by decide) (own_weaken (show (W.drewN (1 + q)).ownsRow W0.heap.size 3 1 (.slice A' pre.length d') pre.length (valsF bs pre) from hrow) (by omega)) hB.size (Nat.le_refl _) (own_weaken hown' (by omega)) hgrow
                have hr3 := hown'.kept (grownBy_setCell' w1 w.heap.size (.slice (some ⟨g', 0, none⟩) (pre.length + 1) cap')) (.inr (hv1.not_row (by decide) hown').symm)
                have hc1 := hv1.cell
                have hf1 := hv1.frozen
                have kB : ∀ (j : Nat) (t : TypeId) (u : Value), j ≠ w.heap.size → j < W0.heap.size → Boxed W j t u → Boxed (w1.setCell ⟨w.heap.size, 0, none⟩ (.slice (some ⟨g', 0, none⟩) (pre.length + 1) cap')) j t u := fun j t u h1 h2 hj =>
                  ((Boxed.alloc (show Boxed (W.drewN (1 + q)) j t u from hj) _).kept hgrow (own_ne hrow h2)).kept (grownBy_setCell' w1 w.heap.size _) (by simp; omega)
                have KB := Lib.hid kB
                have HV2 := Lib.hid hv2
                have HR3 := Lib.hid hr3
                have HK2 := Lib.hid hk2
                have HB2 := Lib.hid hb2
                clear kB hv2 hr2 hr3 hk2 hb2 hv1 hown' hgrow
                refine hK _ _ ?_
                clear hK K
                refine wpAnyIn_ready (rs := [5]) (by kernel_rfl) (by simp) ?_
                refine AllReadyIn.cons rfl (fun K hK => ?_) AllReadyIn.nil
                go_simp
                refine hK _ _ ?_
                clear hK K
                refine wpAnyIn_done (by kernel_rfl) ?_ _
                gi_wp2
                refine ⟨?_, ⟨?_, fun u hu => KB.out _ _ u (by omega) (by omega) hu, fun u hu => KB.out _ _ u (by omega) (by omega) hu⟩, ⟨_, HV2.out, ?_, _, _, by rw [List.length_append]; rfl⟩, ?_⟩
                · exact ((keeps_drewN _ (1 + q)).trans HK2.out).from _
                · exact (below_drewN (Below.refl _ W) (1 + q)).trans HB2.out
                · rw [vals_succ, ET.out, List.length_append]; exact HR3.out
                · exact ⟨(below_drewN hB (1 + q)).trans HB2.out, Nat.le_trans hzW HB2.out.size⟩
              · go_simp
                refine hK _ _ ?_
                clear hK K
                refine wpAnyIn_ready (rs := [0, 2]) (by kernel_rfl) (by simp) ?_
                refine AllReadyIn.cons rfl (fun K hK => ?_) (AllReadyIn.cons rfl (fun K hK => ?_) AllReadyIn.nil)
                · go_simp
                  refine hK _ _ ?_
                  clear hK K
                  refine wpAnyIn_ready (rs := [2]) (by kernel_rfl) (by simp) ?_
                  refine AllReadyIn.cons rfl (fun K hK => ?_) AllReadyIn.nil
                  go_simp
                  refine (CallsIn.inRound l (callsIn_wide.2 (get_any b (o + 3 + 2 * x.1) 2 2 r0 r1 W.drew y0 y1 (by omega)))).mono ?_
                  rintro e w3 ⟨rfl, q, rfl⟩
                  refine hK _ _ ?_
                  clear hK K
                  refine wpAnyIn_ready (rs := [3]) (by kernel_rfl) (by simp) ?_
                  refine AllReadyIn.cons rfl (fun K hK => ?_) AllReadyIn.nil
                  go_simp
                  refine hK _ _ ?_
                  clear hK K
                  refine wpAnyIn_ready (rs := [4]) (by kernel_rfl) (by simp) ?_
                  refine AllReadyIn.cons rfl (fun K hK => ?_) AllReadyIn.nil
                  refine step_append_in _ rfl (.tmp 50) (.tmp 53) 22 rfl W0.heap.size 3 i0 _ 1 8 Try.underlying22 hi0 hz0 hz1 hz2 rfl (by omega) (.slice A' pre.length d') pre.length (valsF bs pre) rfl ((show (W.drewN (1 + q)).ownsRow W0.heap.size 3 1 (.slice A' pre.length d') pre.length (valsF bs pre) from hrow).alloc _) ⟨W.heap.size, 0, none⟩ 1 1 [.int .i64 ((r0.toNat : Int) + 256 * (r1.toNat : Int))] rfl rfl (cell_one_new (W.drewN (1 + q)) _ _) (by simp [Value.oneCell']) (by unfold maxLen; omega) (by omega) (by simp only [World.size_alloc]; exact Nat.le_succ_of_le hzW) ?_
                  intro v' w1 hown' hgrow
                  obtain ⟨g', cap', rfl⟩ := ownsRow_succ hown'
                  obtain ⟨hv1, hv2, hr2, hk2, hb2⟩ := Boxed.appended (W := W.drewN (1 + q)) (n₀ := w.heap.size) (show Boxed (W.drewN (1 + q)) w.heap.size 22 (.slice A' pre.length d') from hv) (by decide) (own_weaken (show (W.drewN (1 + q)).ownsRow W0.heap.size 3 1 (.slice A' pre.length d') pre.length (valsF bs pre) from hrow) (by omega)) hB.size (Nat.le_refl _) (own_weaken hown' (by omega)) hgrow
                  have hr3 := hown'.kept (grownBy_setCell' w1 w.heap.size (.slice (some ⟨g', 0, none⟩) (pre.length + 1) cap')) (.inr (hv1.not_row (by decide) hown').symm)
                  have hc1 := hv1.cell
                  have hf1 := hv1.frozen
                  have kB : ∀ (j : Nat) (t : TypeId) (u : Value), j ≠ w.heap.size → j < W0.heap.size → Boxed W j t u → Boxed (w1.setCell ⟨w.heap.size, 0, none⟩ (.slice (some ⟨g', 0, none⟩) (pre.length + 1) cap')) j t u := fun j t u h1 h2 hj =>
                    ((Boxed.alloc (show Boxed (W.drewN (1 + q)) j t u from hj) _).kept hgrow (own_ne hrow h2)).kept (grownBy_setCell' w1 w.heap.size _) (by simp; omega)
                  have KB := Lib.hid kB
                  have HV2 := Lib.hid hv2
                  have HR3 := Lib.hid hr3
                  have HK2 := Lib.hid hk2
                  have HB2 := Lib.hid hb2
                  clear kB hv2 hr2 hr3 hk2 hb2 hv1 hown' hgrow
                  refine hK _ _ ?_
                  clear hK K
                  refine wpAnyIn_ready (rs := [5]) (by kernel_rfl) (by simp) ?_
                  refine AllReadyIn.cons rfl (fun K hK => ?_) AllReadyIn.nil
                  go_simp
                  refine hK _ _ ?_
                  clear hK K
                  refine wpAnyIn_done (by kernel_rfl) ?_ _
                  gi_wp2
                  refine ⟨?_, ⟨?_, fun u hu => KB.out _ _ u (by omega) (by omega) hu, fun u hu => KB.out _ _ u (by omega) (by omega) hu⟩, ⟨_, HV2.out, ?_, _, _, by rw [List.length_append]; rfl⟩, ?_⟩
                  · exact ((keeps_drewN _ (1 + q)).trans HK2.out).from _
                  · exact (below_drewN (Below.refl _ W) (1 + q)).trans HB2.out
                  · rw [vals_succ, ET.out, List.length_append]; exact HR3.out
                  · exact ⟨(below_drewN hB (1 + q)).trans HB2.out, Nat.le_trans hzW HB2.out.size⟩
                · go_simp
                  refine (CallsIn.inRound l (callsIn_wide.2 (get_any b (o + 3 + 2 * x.1) 2 2 r0 r1 W.drew y0 y1 (by omega)))).mono ?_
                  rintro e w3 ⟨rfl, q, rfl⟩
                  refine hK _ _ ?_
                  clear hK K
                  refine wpAnyIn_ready (rs := [0, 3]) (by kernel_rfl) (by simp) ?_
                  refine AllReadyIn.cons rfl (fun K hK => ?_) (AllReadyIn.cons rfl (fun K hK => ?_) AllReadyIn.nil)
                  · go_simp
                    refine hK _ _ ?_
                    clear hK K
                    refine wpAnyIn_ready (rs := [3]) (by kernel_rfl) (by simp) ?_
                    refine AllReadyIn.cons rfl (fun K hK => ?_) AllReadyIn.nil
                    go_simp
                    refine hK _ _ ?_
                    clear hK K
                    refine wpAnyIn_ready (rs := [4]) (by kernel_rfl) (by simp) ?_
                    refine AllReadyIn.cons rfl (fun K hK => ?_) AllReadyIn.nil
                    refine step_append_in _ rfl (.tmp 50) (.tmp 53) 22 rfl W0.heap.size 3 i0 _ 1 8 Try.underlying22 hi0 hz0 hz1 hz2 rfl (by omega) (.slice A' pre.length d') pre.length (valsF bs pre) rfl ((show (W.drewN (1 + q)).ownsRow W0.heap.size 3 1 (.slice A' pre.length d') pre.length (valsF bs pre) from hrow).alloc _) ⟨W.heap.size, 0, none⟩ 1 1 [.int .i64 ((r0.toNat : Int) + 256 * (r1.toNat : Int))] rfl rfl (cell_one_new (W.drewN (1 + q)) _ _) (by simp [Value.oneCell']) (by unfold maxLen; omega) (by omega) (by simp only [World.size_alloc]; exact Nat.le_succ_of_le hzW) ?_
                    intro v' w1 hown' hgrow
                    obtain ⟨g', cap', rfl⟩ := ownsRow_succ hown'
                    obtain ⟨hv1, hv2, hr2, hk2, hb2⟩ := Boxed.appended (W := W.drewN (1 + q)) (n₀ := w.heap.size) (show Boxed (W.drewN (1 + q)) w.heap.size 22 (.slice A' pre.length d') from hv) (by decide) (own_weaken (show (W.drewN (1 + q)).ownsRow W0.heap.size 3 1 (.slice A' pre.length d') pre.length (valsF bs pre) from hrow) (by omega)) hB.size (Nat.le_refl _) (own_weaken hown' (by omega)) hgrow
                    have hr3 := hown'.kept (grownBy_setCell' w1 w.heap.size (.slice (some ⟨g', 0, none⟩) (pre.length + 1) cap')) (.inr (hv1.not_row (by decide) hown').symm)
                    have hc1 := hv1.cell
                    have hf1 := hv1.frozen
                    have kB : ∀ (j : Nat) (t : TypeId) (u : Value), j ≠ w.heap.size → j < W0.heap.size → Boxed W j t u → Boxed (w1.setCell ⟨w.heap.size, 0, none⟩ (.slice (some ⟨g', 0, none⟩) (pre.length + 1) cap')) j t u := fun j t u h1 h2 hj =>
                      ((Boxed.alloc (show Boxed (W.drewN (1 + q)) j t u from hj) _).kept hgrow (own_ne hrow h2)).kept (grownBy_setCell' w1 w.heap.size _) (by simp; omega)
                    have KB := Lib.hid kB
                    have HV2 := Lib.hid hv2
                    have HR3 := Lib.hid hr3
                    have HK2 := Lib.hid hk2
                    have HB2 := Lib.hid hb2
                    clear kB hv2 hr2 hr3 hk2 hb2 hv1 hown' hgrow
                    refine hK _ _ ?_
                    clear hK K
                    refine wpAnyIn_ready (rs := [5]) (by kernel_rfl) (by simp) ?_
                    refine AllReadyIn.cons rfl (fun K hK => ?_) AllReadyIn.nil
                    go_simp
                    refine hK _ _ ?_
                    clear hK K
                    refine wpAnyIn_done (by kernel_rfl) ?_ _
                    gi_wp2
                    refine ⟨?_, ⟨?_, fun u hu => KB.out _ _ u (by omega) (by omega) hu, fun u hu => KB.out _ _ u (by omega) (by omega) hu⟩, ⟨_, HV2.out, ?_, _, _, by rw [List.length_append]; rfl⟩, ?_⟩
                    · exact ((keeps_drewN _ (1 + q)).trans HK2.out).from _
                    · exact (below_drewN (Below.refl _ W) (1 + q)).trans HB2.out
                    · rw [vals_succ, ET.out, List.length_append]; exact HR3.out
                    · exact ⟨(below_drewN hB (1 + q)).trans HB2.out, Nat.le_trans hzW HB2.out.size⟩
                  · go_simp
                    refine hK _ _ ?_
                    clear hK K
                    refine wpAnyIn_ready (rs := [0]) (by kernel_rfl) (by simp) ?_
                    refine AllReadyIn.cons rfl (fun K hK => ?_) AllReadyIn.nil
                    go_simp
                    refine hK _ _ ?_
                    clear hK K
                    refine wpAnyIn_ready (rs := [4]) (by kernel_rfl) (by simp) ?_
                    refine AllReadyIn.cons rfl (fun K hK => ?_) AllReadyIn.nil
                    refine step_append_in _ rfl (.tmp 50) (.tmp 53) 22 rfl W0.heap.size 3 i0 _ 1 8 Try.underlying22 hi0 hz0 hz1 hz2 rfl (by omega) (.slice A' pre.length d') pre.length (valsF bs pre) rfl ((show (W.drewN (1 + q)).ownsRow W0.heap.size 3 1 (.slice A' pre.length d') pre.length (valsF bs pre) from hrow).alloc _) ⟨W.heap.size, 0, none⟩ 1 1 [.int .i64 ((r0.toNat : Int) + 256 * (r1.toNat : Int))] rfl rfl (cell_one_new (W.drewN (1 + q)) _ _) (by simp [Value.oneCell']) (by unfold maxLen; omega) (by omega) (by simp only [World.size_alloc]; exact Nat.le_succ_of_le hzW) ?_
                    intro v' w1 hown' hgrow
                    obtain ⟨g', cap', rfl⟩ := ownsRow_succ hown'
                    obtain ⟨hv1, hv2, hr2, hk2, hb2⟩ := Boxed.appended (W := W.drewN (1 + q)) (n₀ := w.heap.size) (show Boxed (W.drewN (1 + q)) w.heap.size 22 (.slice A' pre.length d') from hv) (by decide) (own_weaken (show (W.drewN (1 + q)).ownsRow W0.heap.size 3 1 (.slice A' pre.length d') pre.length (valsF bs pre) from hrow) (by omega)) hB.size (Nat.le_refl _) (own_weaken hown' (by omega)) hgrow
                    have hr3 := hown'.kept (grownBy_setCell' w1 w.heap.size (.slice (some ⟨g', 0, none⟩) (pre.length + 1) cap')) (.inr (hv1.not_row (by decide) hown').symm)
                    have hc1 := hv1.cell
                    have hf1 := hv1.frozen
                    have kB : ∀ (j : Nat) (t : TypeId) (u : Value), j ≠ w.heap.size → j < W0.heap.size → Boxed W j t u → Boxed (w1.setCell ⟨w.heap.size, 0, none⟩ (.slice (some ⟨g', 0, none⟩) (pre.length + 1) cap')) j t u := fun j t u h1 h2 hj =>
                      ((Boxed.alloc (show Boxed (W.drewN (1 + q)) j t u from hj) _).kept hgrow (own_ne hrow h2)).kept (grownBy_setCell' w1 w.heap.size _) (by simp; omega)
                    have KB := Lib.hid kB
                    have HV2 := Lib.hid hv2
                    have HR3 := Lib.hid hr3
                    have HK2 := Lib.hid hk2
                    have HB2 := Lib.hid hb2
                    clear kB hv2 hr2 hr3 hk2 hb2 hv1 hown' hgrow
                    refine hK _ _ ?_
                    clear hK K
                    refine wpAnyIn_ready (rs := [5]) (by kernel_rfl) (by simp) ?_
                    refine AllReadyIn.cons rfl (fun K hK => ?_) AllReadyIn.nil
                    go_simp
                    refine hK _ _ ?_
                    clear hK K
                    refine wpAnyIn_done (by kernel_rfl) ?_ _
                    gi_wp2
                    refine ⟨?_, ⟨?_, fun u hu => KB.out _ _ u (by omega) (by omega) hu, fun u hu => KB.out _ _ u (by omega) (by omega) hu⟩, ⟨_, HV2.out, ?_, _, _, by rw [List.length_append]; rfl⟩, ?_⟩
                    · exact ((keeps_drewN _ (1 + q)).trans HK2.out).from _
                    · exact (below_drewN (Below.refl _ W) (1 + q)).trans HB2.out
                    · rw [vals_succ, ET.out, List.length_append]; exact HR3.out
                    · exact ⟨(below_drewN hB (1 + q)).trans HB2.out, Nat.le_trans hzW HB2.out.size⟩
            case done =>
              rintro D ys W hD rfl ⟨⟨v, hv, hrow, A', d', rfl⟩, hB, hzW⟩ hK
              rw [upF_len (Nat.le_refl m)] at hv hrow
              have hvc := hv.cell
              have hvf := hv.frozen
              have q0 := (hB.cell (p := ⟨b, o, none⟩) bl).trans HG0.out
              have q1 := (hB.cell (p := ⟨b, o + 1, none⟩) bl).trans HG1.out
              gi_wp2
              gi_region
              all_goals gi_wp2
              have hK0 := (KeepsOthers.setCell W ⟨w.heap.size, 0, none⟩ (.slice A' m d')).same D _ hK rfl
              have rX0 := hrow.kept (grownBy_setCell' W w.heap.size (.slice A' m d')) (.inr (hv.not_row (by decide) hrow).symm)
              have bX0 := hv.set (.slice A' m d')
              have BX0 := hB.setCell (p := ⟨w.heap.size, 0, none⟩) (Nat.le_refl _) (.slice A' m d')
              generalize World.setCell W _ _ = X0 at *
              have hK1 : X0.drew.heap[D]? = some (.deferred (some [])) := hK0
              have bX : Boxed X0.drew w.heap.size 22 (.slice A' m d') := bX0
              have rX : X0.drew.ownsRow W0.heap.size 3 1 (.slice A' m d') m (valsF bs (upF m m)) := rX0
              have BX : Below w.heap.size w X0.drew := BX0.drew
              generalize X0.drew = X at *
              refine ⟨by simp, .inl ⟨_, _, rfl, run_takeDeferred hK1, ?_⟩⟩
              have bX' := (bX.kept (grownBy_putObj' X D (.deferred none)) (by simp; omega)).cell
              have rX' := ownsRow_putObj rX (.deferred none) hK1 rfl
              have BX' := BX.trans (belowK_b (w := w) (Nat.le_refl _) X D _ (.deferred none) (by omega) hK1 rfl rfl)
              refine ⟨.tuple #[.int .i64 (p0 : Int), .int .i64 (p1 : Int), .slice A' m d', .int .i64 0], ?_, A', d', ?_, ?_, BX'⟩
              · simp [results, Try.results15, go_sem, bX']
              · simp only [told_len]
              · rw [vals_upF bs (Nat.le_refl m)] at rX'
                simp only [told_len]
                exact own_weaken rX' (by omega)
            case stop =>
              rintro D c pre W _ _ h _
              exact h.elim
end Go.Proofs.Ytdncdmibmopilaa.Bus
