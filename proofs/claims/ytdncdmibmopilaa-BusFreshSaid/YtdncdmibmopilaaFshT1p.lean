/-
  The walk of the law BusFresh: a frame comes, one was heard. Conditions: the state ahead of it.
-/
import Derived.Test.YtdncdmibmopilaaFshB
import Derived.Deep.RegionWith
import Derived.Deep.DeepCutAuto
namespace Go.Proofs.Ytdncdmibmopilaa.Bus
open Go.RowKit Go.Proofs.Ytdncdmibmopilaa.W Go.Proofs.Ytdncdmibmopilaa.Ints Go.Proofs.Ytdncdmibmopilaa.Byt Go.Proofs.Ytdncdmibmopilaa.Num Go.Proofs.Ytdncdmibmopilaa.Keep

set_option maxRecDepth 100000 in
set_option maxHeartbeats 100000000 in
theorem leafT1p (w wx : World) (n c k b o gL g2 : Nat) (V : Int) (ph zz : Int) (SA : Option Addr) (ns sc : Nat) (nw qt sq ag : Int) (A4 : Option Addr) (c4 : Nat) (B4 : Option Addr) (d4 : Nat) (fs : List (Option Addr × Nat))
    (t0 t2 t3 t8 t23 t24 t25 t26 t27 t28 t29 t30 t31 t32 t33 t34 t35 t36 t37 t38 t39 t40 t41 t42 t43 t44 t45 : Value) (u4 u13 u14 u15 u16 u17 u18 u19 u20 u21 u22 u46 u47 u48 u49 u50 u51 u52 u53 u54 u55 u56 u58 u59 u60 u61 u62 u63 u64 u65 u66 u67 u68 u69 u70 u71 u72 u73 u74 u75 u76 u77 u78 u79 u80 u81 u82 u83 u84 u85 u86 u87 u88 u89 u90 u91 u92 u93 u94 u95 u96 u97 u98 u99 u100 u101 u102 u103 u104 u105 u106 u107 u108 u109 u110 u111 u112 u113 u114 u115 u116 u117 u118 u119 u120 u121 u122 u123 u124 u125 u126 u127 u128 u129 u130 u131 u132 u133 u134 u135 u136 u137 u138 u139 u140 u141 u142 u143 u144 u145 u146 u147 u148 u149 u150 u151 u152 u153 u154 u155 u156 u157 u158 u159 u160 u161 u162 u163 u164 u165 u166 u167 u168 : Value) (j0 : TypeInfo) (_hj0 : Try.prog.info? 31 = some j0) (_hy0 : j0.zero = some (Value.slice none 0 0)) (_hy1 : j0.size = 1) (_hy2 : j0.bytes = 24)
    (h400 : ¬ 400 < n) (hwv : 0 ≤ V ∧ V < 6) (hgw : w.heap.size ≤ gL) (_hk : k ≤ n) (hns : ns ≤ k) (hnw1 : -1 ≤ nw) (hnw2 : nw < (ns : Int)) (hqt1 : 0 ≤ qt) (hqt2 : qt ≤ (k : Int)) (hsc : ns ≤ sc) (HST : Hid (stands (1 + V) nw sq ag qt)) (HFL : Hid (fs.length = ns)) (hlt : k < n)
    (ho3 : -9223372036854775808 ≤ ph) (ho4 : ph ≤ 9223372036854775807)
    (KL : Hid (Blk wx gL 24 (linkC 5 (1 + V) (.slice A4 2 c4) (.slice B4 2 d4) sq ag (decide (0 ≤ nw))))) (RA : Hid (Rn wx gL (Value.slice SA ns sc).ownBlock A4 2 (ints [0, 65535]))) (RB : Hid (Rn wx gL (Value.slice SA ns sc).ownBlock B4 2 (ints (wd nw))))
    (RS : Hid (Rn wx gL (Value.slice SA ns sc).ownBlock (some ⟨g2, 0, none⟩) 2 (ints [0, 65535]))) (OS : Hid (wx.ownsRow (gL + 1) 31 1 (.slice SA ns sc) ns (sentV fs))) (HSE : Hid (Sent wx gL (Value.slice SA ns sc).ownBlock fs)) (BW : Hid (Below w.heap.size w wx)) (zw : gL < wx.heap.size) (zb : w.heap.size ≤ wx.heap.size)
    (h2 : wx.cell? ⟨b, o + k * 3 + 1, none⟩ = some (.int .i64 ph)) (hzz : zz = 1) (hn0 : ¬ ns = 0) (j : Nat) (hnw : nw = (j : Int)) (hsq : sq = (j : Int) % 256) (_HAG : Hid (ag = qt)) (h01 : (j : Int) ≤ 1000) (_ha1 : 0 ≤ ag) (_ha2 : ag < 1 + V)
    (P0 : Ending → World → Prop) (K0 KC K1 J K' : Act → World → Prop) (cd : Code) (hcd : code2 = cd)
    (hJ : ∀ (a' : Act) (w' : World), (∃ u4 u9 u10 u11 u13 u14 u15 u16 u17 u18 u19 u20 u21 u22 u46 u47 u48 u49 u50 u51 u52 u53 u54 u55 u56 u57 u58 u59 u60 u61 u62 u63 u64 u65 u66 u67 u68 u69 u70 u71 u72 u73 u74 u75 u76 u77 u78 u79 u80 u81 u82 u83 u84 u85 u86 u87 u88 u89 u90 u91 u92 u93 u94 u95 u96 u97 u98 u99 u100 u101 u102 u103 u104 u105 u106 u107 u108 u109 u110 u111 u112 u113 u114 u115 u116 u117 u118 u119 u120 u121 u122 u123 u124 u125 u126 u127 u128 u129 u130 u131 u132 u133 u134 u135 u136 u137 u138 u139 u140 u141 u142 u143 u144 u145 u146 u147 u148 u149 u150 u151 u152 u153 u154 u155 u156 u157 u158 u159 u160 u161 u162 u163 u164 u165 u166 u167 u168 : Value, FRel w gL g2 V (k + 1) u9 u10 u11 w' ∧ a' = ⟨#[t0, .slice (some ⟨b, o, none⟩) n c, t2, t3, u4, .int .i64 (1 + V), .slice (some ⟨g2, 0, none⟩) 2 2, .pointer (some ⟨gL, 0, none⟩), t8, u9, u10, u11, .int .i64 k, u13, u14, u15, u16, u17, u18, u19, u20, u21, u22, t23, t24, t25, t26, t27, t28, t29, t30, t31, t32, t33, t34, t35, t36, t37, t38, t39, t40, t41, t42, t43, t44, t45, u46, u47, u48, u49, u50, u51, u52, u53, u54, u55, u56, u57, u58, u59, u60, u61, u62, u63, u64, u65, u66, u67, u68, u69, u70, u71, u72, u73, u74, u75, u76, u77, u78, u79, u80, u81, u82, u83, u84, u85, u86, u87, u88, u89, u90, u91, u92, u93, u94, u95, u96, u97, u98, u99, u100, u101, u102, u103, u104, u105, u106, u107, u108, u109, u110, u111, u112, u113, u114, u115, u116, u117, u118, u119, u120, u121, u122, u123, u124, u125, u126, u127, u128, u129, u130, u131, u132, u133, u134, u135, u136, u137, u138, u139, u140, u141, u142, u143, u144, u145, u146, u147, u148, u149, u150, u151, u152, u153, u154, u155, u156, u157, u158, u159, u160, u161, u162, u163, u164, u165, u166, u167, u168], []⟩) → J a' w') (hM : ∀ (a' : Act) (w' : World), Met J a' w' → K' a' w') :
    cd.wp Try.prog (Exit.then K' (Exit.inBlock 1 (Exit.then K1 (Exit.then KC (Exit.inBlock 0 (Exit.then K0 (bodyPost Try.prog Try.f8 P0))))))) ⟨#[t0, .slice (some ⟨b, o, none⟩) n c, t2, t3, u4, .int .i64 (1 + V), .slice (some ⟨g2, 0, none⟩) 2 2, .pointer (some ⟨gL, 0, none⟩), t8, .slice SA ns sc, .int .i64 nw, .int .i64 qt, .int .i64 k, u13, u14, u15, u16, u17, u18, u19, u20, u21, u22, t23, t24, t25, t26, t27, t28, t29, t30, t31, t32, t33, t34, t35, t36, t37, t38, t39, t40, t41, t42, t43, t44, t45, u46, u47, u48, u49, u50, u51, u52, u53, u54, u55, u56, .int .i64 zz, u58, u59, u60, u61, u62, u63, u64, u65, u66, u67, u68, u69, u70, u71, u72, u73, u74, u75, u76, u77, u78, u79, u80, u81, u82, u83, u84, u85, u86, u87, u88, u89, u90, u91, u92, u93, u94, u95, u96, u97, u98, u99, u100, u101, u102, u103, u104, u105, u106, u107, u108, u109, u110, u111, u112, u113, u114, u115, u116, u117, u118, u119, u120, u121, u122, u123, u124, u125, u126, u127, u128, u129, u130, u131, u132, u133, u134, u135, u136, u137, u138, u139, u140, u141, u142, u143, u144, u145, u146, u147, u148, u149, u150, u151, u152, u153, u154, u155, u156, u157, u158, u159, u160, u161, u162, u163, u164, u165, u166, u167, u168], []⟩ wx := by
  subst hcd
  subst hzz
  subst hnw hsq
  have h0 : (0 : Int) ≤ (j : Int) := by omega
  conv => arg 2; whnf
  have KL1 : Hid (Blk wx gL 24 (linkC 5 (1 + V) (.slice A4 2 c4) (.slice B4 2 d4) ((j : Int) % 256) ag true)) := by
    have h := KL
    rwa [show decide (0 ≤ (j : Int)) = true from by simp] at h
  have RB1 : Hid (Rn wx gL (Value.slice SA ns sc).ownBlock B4 2 (ints [(j : Int), 1000 - (j : Int)])) := by
    have h := RB
    rwa [wd_nat] at h
  clear KL RB
  have hnp : ((ns : Int) == 0) = false := by simp; omega
  have hr := pick_lt (n := ph) (m := (ns : Int)) (by omega)
  go_wp2_with fail
  refine (picked_any ph (ns : Int) _ ho3 ho4 (by omega) (by omega)).mono ?_
  rintro e wx ⟨rfl, rfl⟩
  try dsimp only
  generalize pickN ph (ns : Int) = r at hr ⊢
  obtain ⟨kk, hkk⟩ : ∃ kk : Nat, (kk : Int) = (ns : Int) - 1 - r := ⟨((ns : Int) - 1 - r).toNat, by omega⟩
  have hkl : kk < ns := by omega
  obtain ⟨gs, rfl, hgs1, hgs2⟩ := own_head OS.out (by omega)
  obtain ⟨⟨Af, cf⟩, hfk⟩ : ∃ p, fs[kk]? = some p := ⟨_, List.getElem?_eq_getElem (by rw [HFL.out]; exact hkl)⟩
  obtain ⟨rnf, hcf1, hcf2⟩ := HSE.out kk _ hfk
  simp only at rnf hcf1 hcf2
  have hcs : wx.cell? ⟨gs, kk, none⟩ = some (.slice Af 9 cf) := by
    rw [OS.out.cellAt kk (by omega)]
    simp [sentV, hfk]
  go_upto_region 24 with fail
  rw [← hkk]
  have HKK := Lib.hid hkk
  have RNF := Lib.hid rnf
  clear hkk hfk rnf hr
  have d4' := KL1.out.cell
  have e4' := KL1.out.frozen
  have TR : Hid (Below wx.heap.size wx wx.drew) := below_drewN (Below.refl _ _) 1
  have TR2 : Hid (Below wx.heap.size wx (wx.alloc (.cells #[.int .i64 0, .int .i64 0, .slice none 0 0, .slice none 0 0, .int .i64 0, .int .i64 0, .bool false] 24)).drew) := below_drewN (below_alloc _) 1
  have KZ : Hid (Blk (wx.alloc (.cells #[.int .i64 0, .int .i64 0, .slice none 0 0, .slice none 0 0, .int .i64 0, .int .i64 0, .bool false] 24)).drew wx.heap.size 24 #[.int .i64 0, .int .i64 0, .slice none 0 0, .slice none 0 0, .int .i64 0, .int .i64 0, .bool false]) := Blk.new wx _ _
  have hki : (kk : Int) < (ns : Int) := by omega
  have h := take_fr (W := 1 + V) (nw := (j : Int)) (sq := (j : Int) % 256) (ag := ag) (qt := qt) (j := kk) (by omega) (by omega) (by omega) HST.out
  rw [wd_nat, show decide (0 ≤ (j : Int)) = true from by simp] at h
  obtain ⟨x, agv, E, TK, HX⟩ : ∃ x agv E : Int, Hid (heardF 5 (1 + V) [0, 65535] [(j : Int), 1000 - (j : Int)] ((j : Int) % 256) ag true (openF (frB kk)) = (⟨5, 1 + V, [0, 65535], [x, 1000 - x], x % 256, agv, true⟩, E)) ∧ Hid (lateB ((j : Int) % 256) ((kk : Int) % 256) = true ∧ x = (j : Int) ∧ agv = ag ∧ E = 18 ∨ lateB ((j : Int) % 256) ((kk : Int) % 256) = false ∧ x = (kk : Int) ∧ agv = 0 ∧ E = 0) := by
    cases hla : lateB ((j : Int) % 256) ((kk : Int) % 256)
    · rw [hla] at h
      exact ⟨(kk : Int), 0, 0, h, .inr ⟨rfl, rfl, rfl, rfl⟩⟩
    · rw [hla] at h
      exact ⟨(j : Int), ag, 18, h, .inl ⟨rfl, rfl, rfl, rfl⟩⟩
  clear h
  go_cut [17, 18] from 46 to 168 (fun pv ev wc => ∃ g A6 c6 B6 d6, pv = .pointer (some ⟨g, 0, none⟩) ∧ ev = .int .i64 E ∧ Hid (Blk wc g 24 (linkC 5 (1 + V) (.slice A6 2 c6) (.slice B6 2 d6) (x % 256) (agv) true)) ∧ (g ≠ gL ∧ wx.heap.size ≤ g) ∧ Hid (Rd wc 1 A6 2 (ints [0, 65535])) ∧ Hid (Rd wc 1 B6 2 (ints [x, 1000 - x])) ∧ Hid (∀ a, A6 = some a → wx.heap.size ≤ a.block ∧ True) ∧ Hid (∀ a, B6 = some a → wx.heap.size ≤ a.block ∧ True) ∧ Hid (Below wx.heap.size wx wc))
  case first =>
    go_region_with (first | (go_at_call 26; refine (Take_any 5 (1 + V) A4 2 c4 B4 2 d4 ((j : Int) % 256) ag true [0, 65535] [(j : Int), 1000 - (j : Int)] Af 9 cf (frB kk) (wx.alloc (.cells #[.int .i64 0, .int .i64 0, .slice none 0 0, .slice none 0 0, .int .i64 0, .int .i64 0, .bool false] 24)).drew (RA.out.1.below TR2.out) (by omega) (RB1.out.1.below TR2.out) (by omega) (by omega) (by omega) (RNF.out.1.below TR2.out) hcf1 (by omega) hcf2).mono ?_; intro e w5 hf; rw [TK.out] at hf; obtain ⟨A6, c6, B6, d6, rfl, hb5, r5, s5, g5, j5⟩ := hf.rd; (simp only [show ([0, 65535] : List Int).length = 2 from rfl, show ∀ x y : Int, [x, y].length = 2 from fun _ _ => rfl] at r5 s5 ⊢); (have nb5 := below_step TR2 hb5); (have zn5 := nb5.size); (have KN := Lib.hid (KZ.out.below hb5)); (have q1 := (KL1.out.below nb5).cell); (have q2 := (KL1.out.below nb5).frozen); (have q3 := KN.out.cell); (have q4 := KN.out.frozen); (have g5 : ∀ a, A6 = some a → wx.heap.size + 1 ≤ a.block ∧ a.block < w5.heap.size := (by simpa using g5)); (have j5 : ∀ a, B6 = some a → wx.heap.size + 1 ≤ a.block ∧ a.block < w5.heap.size := (by simpa using j5)); (have zl5 : wx.heap.size < w5.heap.size := KN.out.lt); clear hb5 hf) | (go_at_call 26; refine (Take_any 5 (1 + V) A4 2 c4 B4 2 d4 ((j : Int) % 256) ag true [0, 65535] [(j : Int), 1000 - (j : Int)] Af 9 cf (frB kk) wx.drew (RA.out.1.below TR.out) (by omega) (RB1.out.1.below TR.out) (by omega) (by omega) (by omega) (RNF.out.1.below TR.out) hcf1 (by omega) hcf2).mono ?_; intro e w6 hf; rw [TK.out] at hf; obtain ⟨A6, c6, B6, d6, rfl, hb6, r6, s6, g6, j6⟩ := hf.rd; (simp only [show ([0, 65535] : List Int).length = 2 from rfl, show ∀ x y : Int, [x, y].length = 2 from fun _ _ => rfl] at r6 s6 ⊢); (have nb6 := below_step TR hb6); (have zn6 := nb6.size); (have q1 := (KL1.out.below nb6).cell); (have q2 := (KL1.out.below nb6).frozen); clear hb6 hf))
    all_goals go_wp2_with fail
    all_goals go_meet
    all_goals first
      | (have KNX := KN
         have n6 := grow7 w5 wx.heap.size (.int .i64 5) (.int .i64 (1 + V)) (.slice A6 2 c6) (.slice B6 2 d6) (.int .i64 (x % 256)) (.int .i64 (agv)) (.bool true)
         exact ⟨wx.heap.size, A6, c6, B6, d6, rfl, rfl, blk7 KN.out (.int .i64 5) (.int .i64 (1 + V)) (.slice A6 2 c6) (.slice B6 2 d6) (.int .i64 (x % 256)) (.int .i64 (agv)) (.bool true), ⟨by omega, Nat.le_refl _⟩, r5.grown n6 (fun a ha e => by have := (g5 a ha).1; injection e; omega), s5.grown n6 (fun a ha e => by have := (j5 a ha).1; injection e; omega), (fun a ha => ⟨by have := (g5 a ha).1; omega, trivial⟩), (fun a ha => ⟨by have := (j5 a ha).1; omega, trivial⟩), nb5.trans (Grow.below n6 zn5 (fun x hx => by injection hx; omega))⟩)
      | exact ⟨w6.heap.size, A6, c6, B6, d6, rfl, rfl, Blk.new w6 24 (linkC 5 (1 + V) (.slice A6 2 c6) (.slice B6 2 d6) (x % 256) (agv) true), ⟨by omega, zn6⟩, r6.alloc _, s6.alloc _, (fun a ha => ⟨(g6 a ha).1, trivial⟩), (fun a ha => ⟨(j6 a ha).1, trivial⟩), nb6.alloc zn6 _⟩
  case rest =>
    obtain ⟨g, A6, c6, B6, d6, rfl, rfl, KG, ⟨hgg, hgx⟩, r6', s6', g6', j6', nb6'⟩ := hcut
    obtain ⟨w6, hw6⟩ : ∃ w6 : World, w6 = wc := ⟨_, rfl⟩
    subst hw6
    have r6 := r6'.out
    have s6 := s6'.out
    have g6 := g6'.out
    have j6 := j6'.out
    have nb6 := nb6'.out
    have zn6 := nb6.size
    have dkn := KG.out.cell
    have ekn := KG.out.frozen
    have dg6 := (KL1.out.below nb6).cell
    have eg6 := (KL1.out.below nb6).frozen
    clear r6' s6' g6' j6' nb6' TR TR2 KZ d4' e4'
    clear TK
    go_upto_region 25 with fail
    go_cut [19] from 46 to 168 (fun v19 wz => ∃ va : Int, v19 = .int .i64 va ∧ Hid (va = ((kk : Int) - (j : Int)) % 256) ∧ w6 = wz)
    case first =>
      clear HX dkn ekn dg6 eg6
      go_wp2
      go_meet
      exact ⟨_, rfl, by show _ = _; first | rfl | omega, rfl⟩
    case rest =>
      obtain ⟨va, rfl, HVA, rfl⟩ := hcut
      go_upto_region 26 with fail
      go_cut [20] from 46 to 168 (fun v20 wz => v20 = .bool (decide (0 < va) && decide (va < 128)) ∧ w6 = wz)
      case first =>
        clear HX dkn ekn dg6 eg6 HVA
        have t1 : decide ((j : Int) < 0) = false := decide_eq_false (by omega)
        cases t2 : decide (0 < va)
        · go_wp2
          go_meet
          exact ⟨by rw [t2]; rfl, rfl⟩
        · cases t3 : decide (va < 128)
          · go_wp2
            go_meet
            exact ⟨by rw [t2, t3]; rfl, rfl⟩
          · go_wp2
            go_meet
            exact ⟨by rw [t2, t3]; rfl, rfl⟩
      case rest =>
        obtain ⟨rfl, rfl⟩ := hcut
        have hla2 := late_ahead2 (nw := j) (j := kk)
        rw [← HVA.out] at hla2
        have hb : (decide (0 < va) && decide (va < 128)) = !(lateB ((j : Int) % 256) ((kk : Int) % 256)) := by rw [hla2]; cases decide (0 < va) <;> cases decide (va < 128) <;> rfl
        rw [hb]
        clear hb hla2 HVA
        have n7 := grow7 w6 gL (.int .i64 5) (.int .i64 (1 + V)) (.slice A6 2 c6) (.slice B6 2 d6) (.int .i64 (x % 256)) (.int .i64 (agv)) (.bool true)
        have z7 := n7.size
        have hsl : ∀ x, (Value.slice (some ⟨gs, 0, none⟩) ns sc).ownBlock = some x → gL + 1 ≤ x ∧ x < wx.heap.size := fun x hx => OS.out.lt _ hx
        have K7 := Lib.hid (blk7 (KL1.out.below nb6) (.int .i64 5) (.int .i64 (1 + V)) (.slice A6 2 c6) (.slice B6 2 d6) (.int .i64 (x % 256)) (.int .i64 (agv)) (.bool true))
        have RA7 := Lib.hid ((Rn.new (g := gL) (sb := (Value.slice (some ⟨gs, 0, none⟩) ns sc).ownBlock) (m := wx.heap.size) r6 (fun a ha => (g6 a ha).1) zw (fun x hx => (hsl x hx).2)).box n7)
        have RB7 := Lib.hid ((Rn.new (g := gL) (sb := (Value.slice (some ⟨gs, 0, none⟩) ns sc).ownBlock) (m := wx.heap.size) s6 (fun a ha => (j6 a ha).1) zw (fun x hx => (hsl x hx).2)).box n7)
        have RS7 := Lib.hid ((RS.out.below nb6).box n7)
        have E7 := Lib.hid ((HSE.out.below nb6).box n7)
        have O7 := Lib.hid (own_grown (own_below OS.out nb6) n7 (fun x hx e => by have := hsl x hx; injection e; omega))
        have BW7 := Lib.hid ((BW.out.trans (nb6.mono zb)).trans (Grow.below n7 (by omega) (fun x hx => by injection hx; omega)))
        have zz7 : gL < ((((((((w6.setCell ⟨gL, 0, none⟩ (.int .i64 5)).setCell ⟨gL, 1, none⟩ (.int .i64 (1 + V))).setCell ⟨gL, 2, none⟩ (.slice A6 2 c6)).setCell ⟨gL, 3, none⟩ (.slice B6 2 d6)).setCell ⟨gL, 4, none⟩ (.int .i64 (x % 256))).setCell ⟨gL, 5, none⟩ (.int .i64 (agv))).setCell ⟨gL, 6, none⟩ (.bool true)) : World).heap.size := by omega
        have dk6 := (KL1.out.below nb6).cell
        have ek6 := (KL1.out.below nb6).frozen
        have zg6 : gL < w6.heap.size := by omega
        have zg61 : gL < w6.heap.size + 1 := by omega
        clear n7 hsl nb6 r6 s6 g6 j6 KL1 KG RA RB1 RS HSE OS BW
        rcases HX.out with ⟨hla, hx, hag, hE⟩ | ⟨hla, hx, hag, hE⟩
        · rw [hla, show (!true) = false from rfl]
          have HXX := Lib.hid hx
          have HGG := Lib.hid hag
          subst hE
          clear HX hla hx hag
          go_upto_region 30 with fail
          generalize World.setCell (World.setCell (World.setCell (World.setCell (World.setCell (World.setCell (World.setCell w6 ⟨gL, _, _⟩ _) _ _) _ _) _ _) _ _) _ _) _ _ = w8 at *
          clear dk6 ek6 zg6 zg61 z7 dg6 eg6 dkn ekn
          have d7 := K7.out.cell
          have e7 := K7.out.frozen
          go_wp2
          go_meet
          have hx := HXX.out
          have hag2 := HGG.out
          subst hx
          exact ⟨ (some ⟨gs, 0, none⟩), ns, sc, (j : Int), qt, (j : Int) % 256, agv, A6, c6, B6, d6, fs, rfl, rfl, rfl, by omega, (by rw [hag2]; exact HST), (by rw [show decide (0 ≤ (j : Int)) = true from by simp]; exact K7.out), RA7.out, (by rw [wd_nat]; exact RB7.out), RS7.out, O7.out, HFL, E7.out, BW7.out, zz7⟩
        · rw [hla, show (!false) = true from rfl]
          have HXX := Lib.hid hx
          have HGG := Lib.hid hag
          subst hE
          clear HX hla hx hag
          go_upto_region 30 with fail
          generalize World.setCell (World.setCell (World.setCell (World.setCell (World.setCell (World.setCell (World.setCell w6 ⟨gL, _, _⟩ _) _ _) _ _) _ _) _ _) _ _) _ _ = w8 at *
          clear dk6 ek6 zg6 zg61 z7 dg6 eg6 dkn ekn
          have d7 := K7.out.cell
          have e7 := K7.out.frozen
          go_wp2
          go_meet
          have hx := HXX.out
          have hag := HGG.out
          subst hx hag
          exact ⟨ (some ⟨gs, 0, none⟩), ns, sc, (kk : Int), 0, (kk : Int) % 256, 0, A6, c6, B6, d6, fs, rfl, rfl, rfl, by omega, (.inr ⟨by omega, by omega, rfl, rfl, by omega, by omega⟩), (by rw [show decide (0 ≤ (kk : Int)) = true from by simp]; exact K7.out), RA7.out, (by rw [wd_nat]; exact RB7.out), RS7.out, O7.out, HFL, E7.out, BW7.out, zz7⟩
end Go.Proofs.Ytdncdmibmopilaa.Bus
