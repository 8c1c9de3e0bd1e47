/-
  The walk of the law BusTake. Conditions: the arguments read, within the form's own reach.
-/
import Derived.Test.YtdncdmibmopilaaTak3
import Derived.Test.YtdncdmibmopilaaBus5Take
import Derived.Test.YtdncdmibmopilaaBus13
import Derived.Test.YtdncdmibmopilaaOpen5
namespace Go.Proofs.Ytdncdmibmopilaa.Bus
open Go.RowKit Go.Proofs.Ytdncdmibmopilaa.W Go.Proofs.Ytdncdmibmopilaa.Ints Go.Proofs.Ytdncdmibmopilaa.Byt Go.Proofs.Ytdncdmibmopilaa.Num

set_option maxHeartbeats 1600000 in
theorem clos_Take (q0 : Nat) (Z : Option Addr) (k e : Nat) (bs : List UInt8) (st wt : Int) (A : Option Addr) (n c : Nat) (B : Option Addr) (m d : Nat) (seq age : Int) (fresh : Bool) (xs ys : List Int) (w : World)
    (hq0 : Blk w q0 31 #[.slice Z k e]) (hx : Rd w 1 A n (ints xs)) (hn : n * 8 ≤ 140737488351232) (hy : Rd w 1 B m (ints ys)) (hm : m * 8 ≤ 140737488351232) (hw : wt ≤ 9223372036854775807) (hw' : -9223372036854775808 ≤ wt)
    (hz : Rd w 1 Z k (byts bs)) (hke : k ≤ e) (hk : k ≤ 140737488351232) (he : e ≤ maxLen) :
    Calls Try.prog 25 #[linkV st wt (.slice A n c) (.slice B m d) seq age fresh, .pointer (some ⟨q0, 0, none⟩)] w fun x w' => FreshL w w' x (heardF st wt xs ys seq age fresh (openF bs)) := by
  generalize hF : heardF st wt xs ys seq age fresh (openF bs) = F
  have HF := Lib.hid hF
  have HX := Lib.hid hx
  have HY := Lib.hid hy
  have HZ := Lib.hid hz
  have l0 := hq0.lt
  have g0 := hq0.cell 0
  simp at g0
  clear hF hx hy hz hq0
  go_enter Try.func25, Try.ntmps25
  go_wp2_with fail
  refine (Take_any st wt A n c B m d seq age fresh xs ys Z k e bs _ ((HX.out.alloc _).alloc _) hn ((HY.out.alloc _).alloc _) hm hw hw' ((HZ.out.alloc _).alloc _) hke hk he).mono ?_
  intro x w' hf
  rw [HF.out] at hf
  obtain ⟨A1, d1, A2, d2, rfl, hrows, k1, k2, z1, z2⟩ := FreshL.call2 hf
  have c2 := k2.cell
  have f2 := k2.frozen
  have HO := Lib.hid hrows
  clear hf k1 k2 hrows
  go_wp2
  refine bodyPost_ret (v := .tuple #[linkV F.1.st F.1.wt (.slice A1 F.1.safe.length d1) (.slice A2 F.1.words.length d2) F.1.seq F.1.age F.1.fresh, .int .i64 F.2]) ?_ rfl ?_
  · simp [results, Try.results25, go_sem, c2]
  · refine ⟨A1, d1, A2, d2, rfl, RowsAt.weaken (base := w.heap.size + 2) ?_ (by omega)⟩
    repeat' (first | (with_reducible exact HO.out) | (with_reducible refine RowsAt.set ?_ ?_ ?_ _; rotate_left; (simp <;> omega); (simp <;> omega)))

theorem heard_len {st wt : Int} {xs ys : List Int} {seq age : Int} {fresh : Bool} {bs : List UInt8} (h : xs.length * 8 ≤ 140737488351232) (h' : ys.length * 8 ≤ 140737488351232) :
    (heardF st wt xs ys seq age fresh (openF bs)).1.safe.length * 8 ≤ 140737488351232 ∧ (heardF st wt xs ys seq age fresh (openF bs)).1.words.length * 8 ≤ 140737488351232 := by
  have h60 := (openF_bounds (bs := bs)).1
  unfold heardF
  repeat' split
  all_goals simp [zeroL, h, h']
  all_goals omega

set_option maxHeartbeats 1600000 in
theorem walk_Take (H : Type) (enc : TypeId × Value → H) (w : World) (cs : Array Value) (ho : O.Op enc Try.prog w 24 cs.toList) (Z : Option Addr) (k e : Nat) (hoz : O.Op enc Try.prog w 31 [.slice Z k e]) :
    Calls Try.prog 7 #[.agg cs, .slice Z k e] w fun e w' => e = .returned (.bool true) ∧ Below w.heap.size w w' := by
  obtain ⟨i0, hi0, hz0, hz1, hz2⟩ := info_parts u8_info
  obtain ⟨bs, hke, he, hz⟩ := bytes_in hoz
  obtain ⟨st, wt, A, n, c, B, m, d, seq, age, fresh, xs, ys, hcs, hx, hn, hy, hm, hw, hw'⟩ := link_in ho
  rw [hcs]
  clear ho hcs hoz
  have hlx := rd_len hx
  have hly := rd_len hy
  obtain ⟨hf1, hf2⟩ := heard_len (st := st) (wt := wt) (xs := xs) (ys := ys) (seq := seq) (age := age) (fresh := fresh) (bs := bs) (by omega) (by omega)
  generalize hF : heardF st wt xs ys seq age fresh (openF bs) = F at *
  have HF := Lib.hid hF
  have HX := Lib.hid hx
  have HY := Lib.hid hy
  have HZ := Lib.hid hz
  clear hF hx hy hlx hly hz
  go_enter Try.func7, Try.ntmps7
  go_wp2_with fail
  refine (Heard_any st wt A n c B m d seq age fresh xs ys Z k e bs _ (HX.out.alloc _) hn (HY.out.alloc _) hm (HZ.out.alloc _) hke he).mono ?_
  intro x w1 hf
  rw [HF.out] at hf
  obtain ⟨A1, d1, A2, d2, rfl, hrows, k1, z1⟩ := FreshL.call1 hf
  have HO := Lib.hid hrows
  have B1 := Lib.hid hrows.bel
  have K1 := Lib.hid k1
  have c1 := k1.cell
  have f1 := k1.frozen
  clear hf k1 hrows
  go_wp2_with (at_builtin; refine wpList_append_rd _ rfl (.const (.slice none 0 0)) (.tmp 15) 31 rfl (w1.heap.size + 1) 5 i0 _ 1 1 Try.underlying31 hi0 hz0 hz1 hz2 rfl (by omega) _ 0 [] rfl (World.ownsRow_nil _ _ _ _) Z k e (byts bs) rfl ((HZ.out.below B1.out).alloc _) ?_ ?_ ?_ ?_ ?_)
  · intro u hu
    obtain ⟨x, _, rfl⟩ := List.mem_map.1 hu
    rfl
  · unfold maxLen; omega
  · omega
  · simp
  intro v2 w2 ho2 hg2 hat2
  clear hat2
  obtain ⟨C, e2, rfl, hs1, hs2, _⟩ := own_shape ho2
  try simp only [Nat.zero_add, List.nil_append] at ho2 hs1
  have hb := grow_none (show World.grownBy _ w2 none from hg2)
  have z2 := hb.size
  simp only [World.size_alloc] at z2
  have KW := Lib.hid ((Blk.new w1 24 (linkC F.1.st F.1.wt (.slice A1 F.1.safe.length d1) (.slice A2 F.1.words.length d2) F.1.seq F.1.age F.1.fresh)).below hb)
  have kl := (K1.out.alloc (.cells (linkC F.1.st F.1.wt (.slice A1 F.1.safe.length d1) (.slice A2 F.1.words.length d2) F.1.seq F.1.age F.1.fresh) 24)).below hb
  have KL := Lib.hid kl
  have HC := Lib.hid (Rd.own ho2)
  have HBA := Lib.hid ((below_alloc (.cells (linkC F.1.st F.1.wt (.slice A1 F.1.safe.length d1) (.slice A2 F.1.words.length d2) F.1.seq F.1.age F.1.fresh) 24)).trans (hb.mono (by simp)))
  have B2 := Lib.hid (B1.out.trans (HBA.out.mono (by omega)))
  have c1 := kl.cell
  have f1 := kl.frozen
  have c2 := KW.out.cell
  have f2 := KW.out.frozen
  clear ho2 hg2 hb kl
  have z3 : w.heap.size < w2.heap.size := by omega
  have z4 : w1.heap.size < w2.heap.size := by omega
  go_wp2_with fail
  refine (linkAs_Take w2.heap.size st wt A n c B m d seq age fresh xs ys F A1 A2 d1 d2 _ ((HX.out.below B2.out).alloc _) hn ((HY.out.below B2.out).alloc _) hm ((HO.out.safe.below HBA.out).alloc _) ((HO.out.words.below HBA.out).alloc _) hf1 hf2 ?_).mono ?_
  · intro W A' B' c' d' hb' hr' hy'
    have h := clos_Take w2.heap.size C k e2 bs st wt A' n c' B' m d' seq age fresh xs ys W ((Blk.new w2 _ _).below hb') hr' hn hy' hm hw hw' ((HC.out.alloc _).below hb') hs1 (by omega) hs2
    rw [HF.out] at h
    exact h
  · rintro x w3 ⟨rfl, hb⟩
    have k3 := (Blk.new w2 31 #[.slice C k e2]).below hb
    have c3 := k3.cell
    have f3 := k3.frozen
    have B3 := Lib.hid ((B2.out.alloc (by omega) _).trans (hb.mono (by simp <;> omega)))
    have HC3 := Lib.hid ((HC.out.alloc _).below hb)
    clear hb k3 c1 c2 f1 f2
    go_wp2_with fail
    refine (sameBytes_eq C Z k e2 e bs _ HC3.out (HZ.out.below B3.out)).mono ?_
    rintro x w7 ⟨rfl, rfl⟩
    go_wp2
    go_ret
    exact ⟨rfl, B3.out⟩
end Go.Proofs.Ytdncdmibmopilaa.Bus
