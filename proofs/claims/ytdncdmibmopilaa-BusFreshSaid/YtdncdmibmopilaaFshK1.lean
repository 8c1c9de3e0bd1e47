/-
  The walk of the law BusFresh: a tick, a frame was heard. Conditions: the state ahead of it.
-/
import Derived.Test.YtdncdmibmopilaaFshB
import Derived.Deep.RegionWith
import Derived.Deep.DeepCutAuto
namespace Go.Proofs.Ytdncdmibmopilaa.Bus
open Go.RowKit Go.Proofs.Ytdncdmibmopilaa.W Go.Proofs.Ytdncdmibmopilaa.Ints Go.Proofs.Ytdncdmibmopilaa.Byt Go.Proofs.Ytdncdmibmopilaa.Num Go.Proofs.Ytdncdmibmopilaa.Keep

set_option maxRecDepth 100000 in
set_option maxHeartbeats 100000000 in
theorem leafK1 (w wx : World) (n c k b o gL g2 : Nat) (V : Int) (ph zz : Int) (SA : Option Addr) (ns sc : Nat) (nw qt sq ag : Int) (A4 : Option Addr) (c4 : Nat) (B4 : Option Addr) (d4 : Nat) (fs : List (Option Addr × Nat))
    (t0 t2 t3 t8 t23 t24 t25 t26 t27 t28 t29 t30 t31 t32 t33 t34 t35 t36 t37 t38 t39 t40 t41 t42 t43 t44 t45 : Value) (u4 u13 u14 u15 u16 u17 u18 u19 u20 u21 u22 u46 u47 u48 u49 u50 u51 u52 u53 u54 u55 u56 u58 u59 u60 u61 u62 u63 u64 u65 u66 u67 u68 u69 u70 u71 u72 u73 u74 u75 u76 u77 u78 u79 u80 u81 u82 u83 u84 u85 u86 u87 u88 u89 u90 u91 u92 u93 u94 u95 u96 u97 u98 u99 u100 u101 u102 u103 u104 u105 u106 u107 u108 u109 u110 u111 u112 u113 u114 u115 u116 u117 u118 u119 u120 u121 u122 u123 u124 u125 u126 u127 u128 u129 u130 u131 u132 u133 u134 u135 u136 u137 u138 u139 u140 u141 u142 u143 u144 u145 u146 u147 u148 u149 u150 u151 u152 u153 u154 u155 u156 u157 u158 u159 u160 u161 u162 u163 u164 u165 u166 u167 u168 : Value) (j0 : TypeInfo) (_hj0 : Try.prog.info? 31 = some j0) (_hy0 : j0.zero = some (Value.slice none 0 0)) (_hy1 : j0.size = 1) (_hy2 : j0.bytes = 24)
    (h400 : ¬ 400 < n) (hwv : 0 ≤ V ∧ V < 6) (hgw : w.heap.size ≤ gL) (_hk : k ≤ n) (hns : ns ≤ k) (hnw1 : -1 ≤ nw) (hnw2 : nw < (ns : Int)) (hqt1 : 0 ≤ qt) (hqt2 : qt ≤ (k : Int)) (hsc : ns ≤ sc) (HST : Hid (stands (1 + V) nw sq ag qt)) (HFL : Hid (fs.length = ns)) (hlt : k < n)
    (_ho3 : -9223372036854775808 ≤ ph) (_ho4 : ph ≤ 9223372036854775807)
    (KL : Hid (Blk wx gL 24 (linkC 5 (1 + V) (.slice A4 2 c4) (.slice B4 2 d4) sq ag (decide (0 ≤ nw))))) (RA : Hid (Rn wx gL (Value.slice SA ns sc).ownBlock A4 2 (ints [0, 65535]))) (RB : Hid (Rn wx gL (Value.slice SA ns sc).ownBlock B4 2 (ints (wd nw))))
    (RS : Hid (Rn wx gL (Value.slice SA ns sc).ownBlock (some ⟨g2, 0, none⟩) 2 (ints [0, 65535]))) (OS : Hid (wx.ownsRow (gL + 1) 31 1 (.slice SA ns sc) ns (sentV fs))) (HSE : Hid (Sent wx gL (Value.slice SA ns sc).ownBlock fs)) (BW : Hid (Below w.heap.size w wx)) (zw : gL < wx.heap.size) (zb : w.heap.size ≤ wx.heap.size)
    (_h2 : wx.cell? ⟨b, o + k * 3 + 1, none⟩ = some (.int .i64 ph)) (hzz : zz = 3) (j : Nat) (hnw : nw = (j : Int)) (hsq : sq = (j : Int) % 256) (HAG : Hid (ag = qt)) (h01 : (j : Int) ≤ 1000) (ha1 : 0 ≤ ag) (ha2 : ag < 1 + V)
    (P0 : Ending → World → Prop) (K0 KC K1 J K' : Act → World → Prop) (cd : Code) (hcd : code2 = cd)
    (hJ : ∀ (a' : Act) (w' : World), (∃ u4 u9 u10 u11 u13 u14 u15 u16 u17 u18 u19 u20 u21 u22 u46 u47 u48 u49 u50 u51 u52 u53 u54 u55 u56 u57 u58 u59 u60 u61 u62 u63 u64 u65 u66 u67 u68 u69 u70 u71 u72 u73 u74 u75 u76 u77 u78 u79 u80 u81 u82 u83 u84 u85 u86 u87 u88 u89 u90 u91 u92 u93 u94 u95 u96 u97 u98 u99 u100 u101 u102 u103 u104 u105 u106 u107 u108 u109 u110 u111 u112 u113 u114 u115 u116 u117 u118 u119 u120 u121 u122 u123 u124 u125 u126 u127 u128 u129 u130 u131 u132 u133 u134 u135 u136 u137 u138 u139 u140 u141 u142 u143 u144 u145 u146 u147 u148 u149 u150 u151 u152 u153 u154 u155 u156 u157 u158 u159 u160 u161 u162 u163 u164 u165 u166 u167 u168 : Value, FRel w gL g2 V (k + 1) u9 u10 u11 w' ∧ a' = ⟨#[t0, .slice (some ⟨b, o, none⟩) n c, t2, t3, u4, .int .i64 (1 + V), .slice (some ⟨g2, 0, none⟩) 2 2, .pointer (some ⟨gL, 0, none⟩), t8, u9, u10, u11, .int .i64 k, u13, u14, u15, u16, u17, u18, u19, u20, u21, u22, t23, t24, t25, t26, t27, t28, t29, t30, t31, t32, t33, t34, t35, t36, t37, t38, t39, t40, t41, t42, t43, t44, t45, u46, u47, u48, u49, u50, u51, u52, u53, u54, u55, u56, u57, u58, u59, u60, u61, u62, u63, u64, u65, u66, u67, u68, u69, u70, u71, u72, u73, u74, u75, u76, u77, u78, u79, u80, u81, u82, u83, u84, u85, u86, u87, u88, u89, u90, u91, u92, u93, u94, u95, u96, u97, u98, u99, u100, u101, u102, u103, u104, u105, u106, u107, u108, u109, u110, u111, u112, u113, u114, u115, u116, u117, u118, u119, u120, u121, u122, u123, u124, u125, u126, u127, u128, u129, u130, u131, u132, u133, u134, u135, u136, u137, u138, u139, u140, u141, u142, u143, u144, u145, u146, u147, u148, u149, u150, u151, u152, u153, u154, u155, u156, u157, u158, u159, u160, u161, u162, u163, u164, u165, u166, u167, u168], []⟩) → J a' w') (hM : ∀ (a' : Act) (w' : World), Met J a' w' → K' a' w') :
    cd.wp Try.prog (Exit.then K' (Exit.inBlock 1 (Exit.then K1 (Exit.then KC (Exit.inBlock 0 (Exit.then K0 (bodyPost Try.prog Try.f8 P0))))))) ⟨#[t0, .slice (some ⟨b, o, none⟩) n c, t2, t3, u4, .int .i64 (1 + V), .slice (some ⟨g2, 0, none⟩) 2 2, .pointer (some ⟨gL, 0, none⟩), t8, .slice SA ns sc, .int .i64 nw, .int .i64 qt, .int .i64 k, u13, u14, u15, u16, u17, u18, u19, u20, u21, u22, t23, t24, t25, t26, t27, t28, t29, t30, t31, t32, t33, t34, t35, t36, t37, t38, t39, t40, t41, t42, t43, t44, t45, u46, u47, u48, u49, u50, u51, u52, u53, u54, u55, u56, .int .i64 zz, u58, u59, u60, u61, u62, u63, u64, u65, u66, u67, u68, u69, u70, u71, u72, u73, u74, u75, u76, u77, u78, u79, u80, u81, u82, u83, u84, u85, u86, u87, u88, u89, u90, u91, u92, u93, u94, u95, u96, u97, u98, u99, u100, u101, u102, u103, u104, u105, u106, u107, u108, u109, u110, u111, u112, u113, u114, u115, u116, u117, u118, u119, u120, u121, u122, u123, u124, u125, u126, u127, u128, u129, u130, u131, u132, u133, u134, u135, u136, u137, u138, u139, u140, u141, u142, u143, u144, u145, u146, u147, u148, u149, u150, u151, u152, u153, u154, u155, u156, u157, u158, u159, u160, u161, u162, u163, u164, u165, u166, u167, u168], []⟩ wx := by
  subst hcd
  subst hzz
  subst hnw hsq
  have h0 : (0 : Int) ≤ (j : Int) := by omega
  conv => arg 2; whnf
  have KL1 : Hid (Blk wx gL 24 (linkC 5 (1 + V) (.slice A4 2 c4) (.slice B4 2 d4) ((j : Int) % 256) ag true)) := by
    have h := KL
    rwa [show decide (0 ≤ (j : Int)) = true from by simp] at h
  have RB1 : Hid (Rn wx gL (Value.slice SA ns sc).ownBlock B4 2 (ints [(j : Int), 1000 - (j : Int)])) := by
    have h := RB
    rwa [wd_nat] at h
  clear KL RB
  have d4' := KL1.out.cell
  have e4' := KL1.out.frozen
  have htk := tick_fr (W := 1 + V) (nw := (j : Int)) (sq := (j : Int) % 256) (ag := ag) (qt := qt) (by omega) (by omega) HST.out
  rw [wd_nat, show decide (0 ≤ (j : Int)) = true from by simp, if_pos h0] at htk
  have HTK := Lib.hid htk
  clear htk
  go_wp2_with fail
  refine (Tick_any 5 (1 + V) A4 2 c4 B4 2 d4 ((j : Int) % 256) ag true [0, 65535] [(j : Int), 1000 - (j : Int)] wx RA.out.1 (by omega) RB1.out.1 (by omega) (by omega) (by omega)).mono ?_
  intro e w6 hf
  rw [HTK.out] at hf
  have hagq := HAG.out
  by_cases hend : ag + 1 = 1 + V
  · rw [if_pos hend] at hf
    obtain ⟨A6, c6, B6, d6, rfl, nb6, r6, s6, g6, j6⟩ := hf.rd
    simp only [show ([0, 65535] : List Int).length = 2 from rfl] at r6 s6 ⊢
    have zn6 := nb6.size
    have hqw : 1 + V ≤ qt + 1 := by omega
    have HEND := Lib.hid hend
    clear hf d4' e4' hend hagq
    have n7 := grow7 w6 gL (.int .i64 5) (.int .i64 (1 + V)) (.slice A6 2 c6) (.slice B6 2 d6) (.int .i64 ((j : Int) % 256)) (.int .i64 (0)) (.bool false)
    have z7 := n7.size
    have hsl : ∀ x, (Value.slice SA ns sc).ownBlock = some x → gL + 1 ≤ x ∧ x < wx.heap.size := fun x hx => OS.out.lt _ hx
    have K7 := Lib.hid ((blk7 (KL1.out.below nb6) (.int .i64 5) (.int .i64 (1 + V)) (.slice A6 2 c6) (.slice B6 2 d6) (.int .i64 ((j : Int) % 256)) (.int .i64 (0)) (.bool false)).alloc (.cells (linkC 5 (1 + V) (.slice A6 2 c6) (.slice B6 2 d6) ((j : Int) % 256) (0) false) 24))
    have RA7 := Lib.hid (((Rn.new (g := gL) (sb := (Value.slice SA ns sc).ownBlock) (m := wx.heap.size) r6 (fun a ha => (g6 a ha).1) zw (fun x hx => (hsl x hx).2)).box n7).alloc (.cells (linkC 5 (1 + V) (.slice A6 2 c6) (.slice B6 2 d6) ((j : Int) % 256) (0) false) 24))
    have RB7 := Lib.hid (((Rn.new (g := gL) (sb := (Value.slice SA ns sc).ownBlock) (m := wx.heap.size) s6 (fun a ha => (j6 a ha).1) zw (fun x hx => (hsl x hx).2)).box n7).alloc (.cells (linkC 5 (1 + V) (.slice A6 2 c6) (.slice B6 2 d6) ((j : Int) % 256) (0) false) 24))
    have RS7 := Lib.hid (((RS.out.below nb6).box n7).alloc (.cells (linkC 5 (1 + V) (.slice A6 2 c6) (.slice B6 2 d6) ((j : Int) % 256) (0) false) 24))
    have E7 := Lib.hid (((HSE.out.below nb6).box n7).alloc (.cells (linkC 5 (1 + V) (.slice A6 2 c6) (.slice B6 2 d6) ((j : Int) % 256) (0) false) 24))
    have O7 := Lib.hid (own_below (own_grown (own_below OS.out nb6) n7 (fun x hx e => by have := hsl x hx; injection e; omega)) (below_alloc (.cells (linkC 5 (1 + V) (.slice A6 2 c6) (.slice B6 2 d6) ((j : Int) % 256) (0) false) 24)))
    have BW7 := Lib.hid (((BW.out.trans (nb6.mono zb)).trans (Grow.below n7 (by omega) (fun x hx => by injection hx; omega))).alloc (by omega) (.cells (linkC 5 (1 + V) (.slice A6 2 c6) (.slice B6 2 d6) ((j : Int) % 256) (0) false) 24))
    have zz7 : gL < (World.alloc (((((((w6.setCell ⟨gL, 0, none⟩ (.int .i64 5)).setCell ⟨gL, 1, none⟩ (.int .i64 (1 + V))).setCell ⟨gL, 2, none⟩ (.slice A6 2 c6)).setCell ⟨gL, 3, none⟩ (.slice B6 2 d6)).setCell ⟨gL, 4, none⟩ (.int .i64 ((j : Int) % 256))).setCell ⟨gL, 5, none⟩ (.int .i64 (0))).setCell ⟨gL, 6, none⟩ (.bool false)) (.cells (linkC 5 (1 + V) (.slice A6 2 c6) (.slice B6 2 d6) ((j : Int) % 256) (0) false) 24)).heap.size := by rw [World.size_alloc]; omega
    have dk6 := (KL1.out.below nb6).cell
    have ek6 := (KL1.out.below nb6).frozen
    have zg6 : gL < w6.heap.size := by omega
    have zg61 : gL < w6.heap.size + 1 := by omega
    clear n7 hsl nb6 r6 s6 g6 j6 KL1 RA RB1 RS HSE OS BW
    go_upto_region 37 with fail
    generalize World.alloc (World.setCell (World.setCell (World.setCell (World.setCell (World.setCell (World.setCell (World.setCell w6 _ _) _ _) _ _) _ _) _ _) _ _) _ _) _ = w8 at *
    clear dk6 ek6 zg6 zg61 z7
    have d7 := K7.out.cell
    have e7 := K7.out.frozen
    go_wp2
    go_meet
    exact ⟨ SA, ns, sc, -1, (qt + 1), ((j : Int) % 256), 0, A6, c6, B6, d6, fs, rfl, rfl, rfl, by omega, (.inl ⟨rfl, rfl, by omega, by omega⟩), K7.out, RA7.out, RB7.out, RS7.out, O7.out, HFL, E7.out, BW7.out, zz7⟩
  · rw [if_neg hend] at hf
    obtain ⟨A6, c6, B6, d6, rfl, nb6, r6, s6, g6, j6⟩ := hf.rd
    simp only [show ([0, 65535] : List Int).length = 2 from rfl, show ∀ x y : Int, [x, y].length = 2 from fun _ _ => rfl] at r6 s6 ⊢
    have zn6 := nb6.size
    have hqw : qt + 1 < 1 + V := by omega
    have hag1 : ag + 1 < 1 + V := by omega
    clear hf d4' e4' hend hagq
    have n7 := grow7 w6 gL (.int .i64 5) (.int .i64 (1 + V)) (.slice A6 2 c6) (.slice B6 2 d6) (.int .i64 ((j : Int) % 256)) (.int .i64 (ag + 1)) (.bool true)
    have z7 := n7.size
    have hsl : ∀ x, (Value.slice SA ns sc).ownBlock = some x → gL + 1 ≤ x ∧ x < wx.heap.size := fun x hx => OS.out.lt _ hx
    have K7 := Lib.hid ((blk7 (KL1.out.below nb6) (.int .i64 5) (.int .i64 (1 + V)) (.slice A6 2 c6) (.slice B6 2 d6) (.int .i64 ((j : Int) % 256)) (.int .i64 (ag + 1)) (.bool true)).alloc (.cells (linkC 5 (1 + V) (.slice A6 2 c6) (.slice B6 2 d6) ((j : Int) % 256) (ag + 1) true) 24))
    have RA7 := Lib.hid (((Rn.new (g := gL) (sb := (Value.slice SA ns sc).ownBlock) (m := wx.heap.size) r6 (fun a ha => (g6 a ha).1) zw (fun x hx => (hsl x hx).2)).box n7).alloc (.cells (linkC 5 (1 + V) (.slice A6 2 c6) (.slice B6 2 d6) ((j : Int) % 256) (ag + 1) true) 24))
    have RB7 := Lib.hid (((Rn.new (g := gL) (sb := (Value.slice SA ns sc).ownBlock) (m := wx.heap.size) s6 (fun a ha => (j6 a ha).1) zw (fun x hx => (hsl x hx).2)).box n7).alloc (.cells (linkC 5 (1 + V) (.slice A6 2 c6) (.slice B6 2 d6) ((j : Int) % 256) (ag + 1) true) 24))
    have RS7 := Lib.hid (((RS.out.below nb6).box n7).alloc (.cells (linkC 5 (1 + V) (.slice A6 2 c6) (.slice B6 2 d6) ((j : Int) % 256) (ag + 1) true) 24))
    have E7 := Lib.hid (((HSE.out.below nb6).box n7).alloc (.cells (linkC 5 (1 + V) (.slice A6 2 c6) (.slice B6 2 d6) ((j : Int) % 256) (ag + 1) true) 24))
    have O7 := Lib.hid (own_below (own_grown (own_below OS.out nb6) n7 (fun x hx e => by have := hsl x hx; injection e; omega)) (below_alloc (.cells (linkC 5 (1 + V) (.slice A6 2 c6) (.slice B6 2 d6) ((j : Int) % 256) (ag + 1) true) 24)))
    have BW7 := Lib.hid (((BW.out.trans (nb6.mono zb)).trans (Grow.below n7 (by omega) (fun x hx => by injection hx; omega))).alloc (by omega) (.cells (linkC 5 (1 + V) (.slice A6 2 c6) (.slice B6 2 d6) ((j : Int) % 256) (ag + 1) true) 24))
    have zz7 : gL < (World.alloc (((((((w6.setCell ⟨gL, 0, none⟩ (.int .i64 5)).setCell ⟨gL, 1, none⟩ (.int .i64 (1 + V))).setCell ⟨gL, 2, none⟩ (.slice A6 2 c6)).setCell ⟨gL, 3, none⟩ (.slice B6 2 d6)).setCell ⟨gL, 4, none⟩ (.int .i64 ((j : Int) % 256))).setCell ⟨gL, 5, none⟩ (.int .i64 (ag + 1))).setCell ⟨gL, 6, none⟩ (.bool true)) (.cells (linkC 5 (1 + V) (.slice A6 2 c6) (.slice B6 2 d6) ((j : Int) % 256) (ag + 1) true) 24)).heap.size := by rw [World.size_alloc]; omega
    have dk6 := (KL1.out.below nb6).cell
    have ek6 := (KL1.out.below nb6).frozen
    have zg6 : gL < w6.heap.size := by omega
    have zg61 : gL < w6.heap.size + 1 := by omega
    clear n7 hsl nb6 r6 s6 g6 j6 KL1 RA RB1 RS HSE OS BW
    go_upto_region 37 with fail
    generalize World.alloc (World.setCell (World.setCell (World.setCell (World.setCell (World.setCell (World.setCell (World.setCell w6 _ _) _ _) _ _) _ _) _ _) _ _) _ _) _ = w8 at *
    clear dk6 ek6 zg6 zg61 z7
    have d7 := K7.out.cell
    have e7 := K7.out.frozen
    go_wp2
    go_meet
    exact ⟨ SA, ns, sc, (j : Int), (qt + 1), ((j : Int) % 256), (ag + 1), A6, c6, B6, d6, fs, rfl, rfl, rfl, by omega, (.inr ⟨h0, h01, rfl, by have := HAG.out; omega, by omega, hag1⟩), (by rw [show decide (0 ≤ (j : Int)) = true from by simp]; exact K7.out), RA7.out, (by rw [wd_nat]; exact RB7.out), RS7.out, O7.out, HFL, E7.out, BW7.out, zz7⟩
end Go.Proofs.Ytdncdmibmopilaa.Bus
