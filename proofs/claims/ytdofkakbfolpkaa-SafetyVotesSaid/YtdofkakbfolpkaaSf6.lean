/-
  The statements' guardOf: a guard with rows of its own that reads the same. Conditions: the guard reads, within the reach.
-/
import Derived.Test.YtdofkakbfolpkaaSf3
import Derived.Test.YtdofkakbfolpkaaApl
import Derived.Test.YtdofkakbfolpkaaSt
import Derived.Deep.RegionHeld3
namespace Go.Proofs.Ytdofkakbfolpkaa.Sf
open Go.RowKit Go.Proofs.Ytdofkakbfolpkaa.W Go.Proofs.Ytdofkakbfolpkaa.Ints Go.Proofs.Ytdofkakbfolpkaa.Pop

abbrev guardV (m d : Int) (Q : Option Addr) (n c : Nat) : Value := .agg #[.int .i64 m, .int .i64 d, .slice Q n c]
/-- rows of votes, from base on, none of them in B's block -/
def Fr (base : Nat) (B : Option Addr) (us : List VD) (w : World) : Prop :=
  ∀ u ∈ us, Rd w 1 u.A u.n (ints u.of) ∧ u.n * 8 ≤ 140737488351232 ∧ u.n ≤ u.c ∧ ∀ a, u.A = some a → base ≤ a.block ∧ a.block < w.heap.size ∧ ∀ b, B = some b → a.block ≠ b.block
theorem Fr.below {base : Nat} {B : Option Addr} {us : List VD} {w w' : World} (h : Fr base B us w) (hb : Below w.heap.size w w') : Fr base B us w' := fun u hu =>
  ⟨(h u hu).1.below hb, (h u hu).2.1, (h u hu).2.2.1, fun a ha => ⟨((h u hu).2.2.2 a ha).1, Nat.lt_of_lt_of_le ((h u hu).2.2.2 a ha).2.1 hb.size, ((h u hu).2.2.2 a ha).2.2⟩⟩
theorem Fr.grown {base : Nat} {B B' : Option Addr} {us : List VD} {w w' : World} {n c n' c' : Nat} (h : Fr base B us w) (hg : w.grownBy w' (Value.slice B n c).ownBlock)
    (hat : (Value.slice B' n' c').ownBlock = (Value.slice B n c).ownBlock ∨ (Value.slice B' n' c').ownBlock = some w.heap.size) : Fr base B' us w' := fun u hu => by
  obtain ⟨h1, h2, h3, h4⟩ := h u hu
  refine ⟨h1.grown hg ?_, h2, h3, fun a ha => ?_⟩
  · intro a ha e
    obtain ⟨_, _, hn⟩ := h4 a ha
    cases B with
    | none => simp [Value.ownBlock] at e
    | some b =>
      have : a.block = b.block := by simpa [Value.ownBlock] using e
      exact hn b rfl this
  · obtain ⟨p1, p2, p3⟩ := h4 a ha
    refine ⟨p1, Nat.lt_of_lt_of_le p2 hg.size, fun b hb e => ?_⟩
    subst hb
    rcases hat with hat | hat
    · cases B with
      | none => simp [Value.ownBlock] at hat
      | some b' =>
        have : b.block = b'.block := by simpa [Value.ownBlock] using hat
        exact p3 b' rfl (e.trans this)
    · have : b.block = w.heap.size := by simpa [Value.ownBlock] using hat
      omega
theorem Fr.snoc {base : Nat} {B : Option Addr} {us : List VD} {w : World} {u : VD} (h : Fr base B us w) (hu : Fr base B [u] w) : Fr base B (us ++ [u]) w := fun x hx => by
  rw [List.mem_append] at hx
  rcases hx with hx | hx
  · exact h x hx
  · exact hu x hx
theorem cell_alloc (w : World) (o : Obj) (b i : Nat) (hb : b < w.heap.size) : (w.alloc o).cell? ⟨b, i, none⟩ = w.cell? ⟨b, i, none⟩ := World.cell?_of_block (w := w) ((below_alloc o).block b hb)
theorem votes_snoc (us : List VD) (u : VD) : votesV (us ++ [u]) = votesV us ++ u.cs := by simp [votesV]
theorem votes_one (us : List VD) : ∀ u ∈ votesV us, u.oneCell' = true := by
  intro u hu
  simp only [votesV, List.mem_flatMap] at hu
  obtain ⟨v, _, hv⟩ := hu
  simp [VD.cs] at hv
  rcases hv with rfl | rfl <;> rfl
theorem pl_take {vs : List VD} {k : Nat} {v : VD} (h : vs[k]? = some v) : (vs.take (k + 1)).map VD.pl = (vs.take k).map VD.pl ++ [v.pl] := by
  have hk := (List.getElem?_eq_some_iff.1 h).1
  rw [List.getElem?_eq_getElem hk] at h
  injection h with h
  rw [List.take_succ_eq_append_getElem hk, List.map_append, h]
  rfl

theorem Fr.set {base : Nat} {B : Option Addr} {us : List VD} {w : World} (h : Fr base B us w) {p : Addr} (hp : p.block < base) (x : Value) : Fr base B us (w.setCell p x) := fun u hu => by
  obtain ⟨h1, h2, h3, h4⟩ := h u hu
  refine ⟨h1.set (fun a ha e => ?_) x, h2, h3, fun a ha => ⟨(h4 a ha).1, ?_, (h4 a ha).2.2⟩⟩
  · have := (h4 a ha).1
    omega
  · have := (h4 a ha).2.1
    simpa using this
theorem grd_of {base : Nat} {B : Option Addr} {n c : Nat} {us : List VD} {w : World} (ho : w.ownsRow base 50 2 (.slice B n c) n (votesV us)) (hf : Fr base B us w) : GRd w B n us :=
  ⟨Rd.own ho, fun u hu => ⟨(hf u hu).1, (hf u hu).2.1, (hf u hu).2.2.1⟩⟩

set_option maxHeartbeats 3200000 in
theorem guardOf_any (m d : Int) (Q : Option Addr) (n c : Nat) (vs : List VD) (w : World) (hr : GRd w Q n vs) (hn : n * 32 ≤ 140737488351232) :
    Calls Try.prog 7 #[guardV m d Q n c] w fun e w' => ∃ B c' us, e = .returned (guardV m d B n c') ∧ us.map VD.pl = vs.map VD.pl ∧ GRd w' B n us ∧ Below w.heap.size w w' := by
  obtain ⟨i0, hi0, hz0, hz1, hz2⟩ := info_parts int_info
  obtain ⟨j0, hj0, hy0, hy1, hy2⟩ := info_parts vote_info
  have HR := Lib.hid hr
  have HL := Lib.hid hr.len
  clear hr
  go_enter Try.func7, Try.ntmps7
  go_wp2
  generalize hW : World.alloc (w.alloc _) _ = W
  have k0 : Blk W w.heap.size 24 #[.int .i64 m, .int .i64 d, .slice Q n c] := by rw [← hW]; exact (Blk.new w _ _).alloc _
  have k1 : Blk W (w.heap.size + 1) 24 #[.int .i64 0, .int .i64 0, .slice none 0 0] := by
    rw [← hW]
    have h := Blk.new (w.alloc (.cells #[.int .i64 m, .int .i64 d, .slice Q n c] 24)) 24 #[.int .i64 0, .int .i64 0, .slice none 0 0]
    simpa only [World.size_alloc] using h
  have B0 : Hid (Below w.heap.size w W) := by rw [← hW]; exact below2 _ _ _
  have zW : W.heap.size = w.heap.size + 2 := by rw [← hW]; simp
  have K0 := Lib.hid k0
  have K1 := Lib.hid k1
  have ZW := Lib.hid zW
  clear hW k0 k1 zW
  go_loopw [3, 4] (fun v i wr => ∃ k : Nat, k ≤ n ∧ i = .int .i64 k ∧ ∃ B c' us, v = .slice B k c' ∧ Hid (wr.ownsRow W.heap.size 50 2 (.slice B k c') k (votesV us)) ∧ Hid (us.map VD.pl = (vs.take k).map VD.pl) ∧ Hid (Fr W.heap.size B us wr) ∧ Hid (Below W.heap.size W wr)) (fun _ i _ => n - (intOf i).toNat)
  case atStart => exact ⟨0, Nat.zero_le _, rfl, none, 0, [], rfl, World.ownsRow_nil _ _ _ _, rfl, (fun _ h => by cases h), Below.refl _ _⟩
  case round =>
    obtain ⟨k, hk, rfl, B, c', us, rfl, ho, hus, hf, hb⟩ := hrel
    have c0' := (K0.out.below hb.out).cell
    have f0' := (K0.out.below hb.out).frozen
    have hz := hb.out.size
    have hzW := ZW.out
    have z0 : w.heap.size < wr.heap.size := by omega
    by_cases hlt : k < n
    · obtain ⟨b, o, v, rfl, ht, hbl, d0, e0, hrv, hvn, hvc⟩ := vote_at (HR.out.below (B0.out.trans (hb.out.mono (by omega)))) hlt
      have hbw : b < w.heap.size := by
        obtain ⟨b2, _, _, e2, _, h2, _⟩ := vote_at HR.out hlt
        injection e2 with e2
        injection e2 with e2 _
        subst e2
        exact h2
      have HT := Lib.hid ht
      have HV := Lib.hid hrv
      have hk0 : (0 : Int) ≤ (k : Int) := by omega
      have hkn : (k : Int) < (n : Int) := by omega
      obtain ⟨need, A, vn, vc, of⟩ := v
      have hob : (Value.slice B k c').ownBlock ≠ some b := fun e => by have := (ho.out.lt b e).1; omega
      have how : (Value.slice B k c').ownBlock ≠ some w.heap.size := fun e => by have := (ho.out.lt _ e).1; omega
      have hc2 : wr.cell? ⟨w.heap.size, 2, none⟩ = some (.slice (some ⟨b, o, none⟩) n c) := by rw [c0']; rfl
      simp only at d0 e0 hvn hvc
      clear ht hrv
      go_wp2_with fail
      go_region_held3 (fun w' => w'.cell? ⟨w.heap.size, 2, none⟩ = some (.slice (some ⟨b, o, none⟩) n c) ∧ w'.cell? ⟨b, o + k * 2, none⟩ = some (.int .i64 need) ∧ w'.cell? ⟨b, o + k * 2 + 1, none⟩ = some (.slice A vn vc))
        (first | exact ⟨hc2, d0, e0⟩ | exact ⟨q1, q2, q3⟩ | exact ⟨q1', q2', q3'⟩ | exact ⟨r1, r2, r3⟩)
        (first
          | (refine step_append_sl _ (by rfl) _ _ _ (by rfl) wr.heap.size 3 i0 _ 1 8 Try.underlying26 hi0 hz0 hz1 hz2 rfl (by omega) (.slice none 0 0) 0 [] (by rfl) (World.ownsRow_nil _ _ _ _) A vn vc (ints of) (by rfl) (HV.out.drew) (ones .i64 of) (by unfold maxLen; omega) (by omega) (by simp) vn (by omega) ?_
             intro A1 c1 w1 ho1 hg1 hat1
             have q1 := (cell_grown hg1 (b := w.heap.size) 2 z0 (by simp [Value.ownBlock])).trans hc2
             have q2 := (cell_grown hg1 (b := b) (o + k * 2) hbl (by simp [Value.ownBlock])).trans d0
             have q3 := (cell_grown hg1 (b := b) (o + k * 2 + 1) hbl (by simp [Value.ownBlock])).trans e0
             have zz1 : wr.heap.size ≤ w1.heap.size := hg1.size
             have q1' := (cell_alloc w1 (.cells #[.int .i64 need, .slice A1 vn c1] 50) w.heap.size 2 (by omega)).trans q1
             have q2' := (cell_alloc w1 (.cells #[.int .i64 need, .slice A1 vn c1] 50) b (o + k * 2) (by omega)).trans q2
             have q3' := (cell_alloc w1 (.cells #[.int .i64 need, .slice A1 vn c1] 50) b (o + k * 2 + 1) (by omega)).trans q3)
          | (have O1 : (w1.alloc (.cells #[.int .i64 need, .slice A1 vn c1] 50)).ownsRow W.heap.size 50 2 (.slice B k c') k (votesV us) := own_below (own_below (show wr.drew.ownsRow W.heap.size 50 2 (.slice B k c') k (votesV us) from ho.out.drew) (grow_none hg1)) (below_alloc _)
             have z1 : wr.heap.size ≤ w1.heap.size := hg1.size
             refine step_append_sl _ (by rfl) _ _ _ (by rfl) W.heap.size 50 j0 _ 2 32 Try.underlying22 hj0 hy0 hy1 hy2 rfl (by omega) (.slice B k c') k (votesV us) (by rfl) O1 (some ⟨w1.heap.size, 0, none⟩) 1 1 [.int .i64 need, .slice A1 vn c1] (by rfl) (rd_newR w1 50 #[.int .i64 need, .slice A1 vn c1]) (by simp [Value.oneCell']) (by unfold maxLen; omega) (by omega) (by simp; omega) (k + 1) rfl ?_
             intro B2 c2 w2 ho2 hg2 hat2
             have r1 := (cell_grown hg2 (b := w.heap.size) 2 (by simp; omega) how).trans q1'
             have r2 := (cell_grown hg2 (b := b) (o + k * 2) (by simp; omega) hob).trans q2'
             have r3 := (cell_grown hg2 (b := b) (o + k * 2 + 1) (by simp; omega) hob).trans q3'))
      have zz2 : w1.heap.size + 1 ≤ w2.heap.size := by have := hg2.size; simpa using this
      obtain ⟨_, _, e1, hs1, hs2, _, hs4⟩ := own_shape ho1
      injection e1 with e1a _ e1c
      subst e1a e1c
      have hub : Fr W.heap.size B [⟨need, A1, vn, c1, of⟩] w1 := by
        intro u hu
        simp only [List.mem_singleton] at hu
        subst hu
        refine ⟨Rd.own ho1, hvn, hs1, fun a ha => ⟨?_, (hs4 a ha).2, fun bb hbb e => ?_⟩⟩
        · have := (hs4 a ha).1
          omega
        · have h1 := (ho.out.lt bb.block (by rw [hbb]; rfl)).2
          have h2 := (hs4 a ha).1
          rw [e] at h2
          omega
      have hg1' : Below wr.heap.size wr w1 := (below_drewN (Below.refl wr.heap.size wr) 1).trans (grow_none hg1)
      have HF2 := Lib.hid ((((hf.out.below (w' := w1) hg1').snoc hub).below (below_alloc (.cells #[.int .i64 need, .slice A1 vn c1] 50))).grown (n := k) (c := c') (n' := k + 1) (c' := c2) hg2 hat2)
      have HO2 : Hid (w2.ownsRow W.heap.size 50 2 (.slice B2 (k + 1) c2) (k + 1) (votesV (us ++ [⟨need, A1, vn, c1, of⟩]))) := by rw [votes_snoc]; exact ho2
      have HU2 : Hid ((us ++ [(⟨need, A1, vn, c1, of⟩ : VD)]).map VD.pl = (vs.take (k + 1)).map VD.pl) := by rw [Hid, pl_take HT.out, List.map_append, hus.out]; rfl
      have hzz := hz
      have HB2 : Hid (Below W.heap.size W w2) := by
        refine ((hb.out.trans (hg1'.mono hz)).alloc (by omega) (.cells #[.int .i64 need, .slice A1 vn c1] 50)).trans (Grow.below hg2 (by simp; omega) (fun g hg => ?_))
        exact (ho.out.lt g hg).1
      clear ho hus hf hb ho1 hg1 hat1 q1 q2 q3 q1' q2' q3' O1 ho2 hg2 hat2 r1 r2 r3 hub hg1' hs4 d0 e0 hc2 c0' f0'
      go_wp2
      go_roundw
      case rel => exact ⟨k + 1, by omega, by go_num, B2, c2, _, rfl, HO2, HU2, HF2, HB2⟩
      case measure => simp [intOf]; omega
    · obtain rfl : k = n := by omega
      have c1' := (K1.out.below hb.out).cell
      have f1' := (K1.out.below hb.out).frozen
      have z1 : w.heap.size + 1 < wr.heap.size := by omega
      have BB : Below w.heap.size w wr := B0.out.trans (hb.out.mono (by omega))
      go_wp2
      refine bodyPost_ret (v := guardV m d B k c') ?_ rfl ?_
      · simp [results, Try.results7, go_sem, c1']
      · refine ⟨B, c', us, rfl, by rw [hus.out, List.take_of_length_le (by rw [HL.out]; omega)], ?_, ?_⟩
        · refine grd_of (base := W.heap.size) (c := c') ?_ ?_
          · repeat' (first | (with_reducible exact ho.out) | (with_reducible refine ownsRow_setCell_below ?_ ?_ _; rotate_left; (simp <;> omega)))
          · repeat' (first | (with_reducible exact hf.out) | (with_reducible refine Fr.set ?_ ?_ _; rotate_left; (simp <;> omega)))
        · repeat' (first | (with_reducible exact BB) | (with_reducible refine Below.setCell ?_ ?_ _; rotate_left; (simp <;> omega)))
end Go.Proofs.Ytdofkakbfolpkaa.Sf
