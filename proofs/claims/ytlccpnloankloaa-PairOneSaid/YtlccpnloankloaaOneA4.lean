/-
  The walk of the law PairOne: arm 4 of the round's switch. Conditions: the state ahead of it.
-/
import Derived.Test.YtlccpnloankloaaOneB
namespace Go.Proofs.Ytlccpnloankloaa.Pair
open Go.RowKit Go.Proofs.Ytlccpnloankloaa.W Go.Proofs.Ytlccpnloankloaa.Ints Go.Proofs.Ytlccpnloankloaa.Keep

set_option maxRecDepth 100000 in
set_option maxHeartbeats 64000000 in
theorem arm4 (n c : Nat) (l : List RB) (p : Int) (w1 : World) (gs gt ga j k m5 : Nat) (x y : SS) (L : List BI) (br bo : Nat) (r : RB) (w8 : World) (V0 V1 : Value)
    (t0 t2 t3 t5 t7 t8 t9 t23 t24 t25 t26 t27 t28 t29 t30 t31 t32 t33 t34 t35 t36 t37 t38 t39 t40 t41 t42 t43 t44 t45 t46 t47 : Value) (u4 u16 u17 u18 u19 u20 u21 u22 u48 u49 u50 u51 u52 u53 u54 u55 u56 u57 u58 u59 u60 u61 u62 u63 u64 u65 u67 u68 u69 u70 u71 u72 u73 u74 u75 u76 u77 u78 u79 u80 u81 u82 u83 u84 u85 u86 u87 u88 u89 u90 u91 u92 u93 u94 u95 u96 u97 u98 u99 u100 u101 u102 u103 u104 u105 u106 u107 u108 u109 u110 u111 u112 u113 u114 u115 u116 u117 u118 u119 u120 u121 u122 u123 u124 u125 u126 u127 u128 u129 u130 u131 u132 u133 u134 u135 u136 u137 u138 u139 u140 u141 u142 u143 u144 u145 u146 u147 u148 u149 u150 u151 u152 u153 u154 u155 u156 u157 u158 u159 u160 u161 u162 u163 u164 u165 u166 u167 u168 u169 u170 u171 u172 u173 u174 u175 u176 u177 u178 u179 u180 u181 u182 u183 u184 u185 u186 u187 u188 u189 u190 u191 u192 u193 u194 u195 u196 u197 u198 u199 u200 u201 u202 u203 u204 u205 u206 u207 u208 u209 u210 u211 u212 u213 u214 u215 u216 u217 u218 u219 u220 u221 u222 u223 u224 u225 u226 u227 u228 u229 u230 u231 u232 u233 u234 u235 u236 u237 u238 u239 u240 u241 u242 u243 u244 u245 u246 u247 u248 u249 u250 u251 u252 u253 u254 u255 u256 u257 u258 : Value) (hg : (n : Int) ≤ 400) (hp1 : 1 ≤ p) (hp4 : p ≤ 4) (_hj : j ≤ n) (HI : Hid (Inv p j 0 x y (L.map BI.b))) (hL : L.length ≤ 2 * j) (hjn : j < n)
    (_HR : Hid (Rd w1 3 (some ⟨br, bo, none⟩) n (rbV l))) (_re : -9223372036854775808 ≤ r.which) (_rf : r.which ≤ 9223372036854775807) (_hj0 : (0 : Int) ≤ (j : Int)) (_hj1 : (j : Int) < (n : Int)) (_hk1 : k ≤ 1)
    (_HRK : Hid (l[j]? = some r)) (_r2 : w8.cell? ⟨br, bo + j * 3 + 2, none⟩ = some (.int .i64 r.which)) (_hbr : br < ga) (hP2 : Hid (PWE w1 w8 gs gt p x y L [⟨ga, 46, sidesC x y p V0 V1⟩])) (hfk : Fit p j (sel k x y))
    (hm4 : m5 = 4) (Q0 : Exit → Act → World → Prop) (K1 J K' : Act → World → Prop) (cd : Code) (hcd : code4 = cd)
    (hJ : ∀ (a' : Act) (w' : World), (∃ u4 u16 u17 u18 u19 u20 u21 u22 u48 u49 u50 u51 u52 u53 u54 u55 u56 u57 u58 u59 u60 u61 u62 u63 u64 u65 u66 u67 u68 u69 u70 u71 u72 u73 u74 u75 u76 u77 u78 u79 u80 u81 u82 u83 u84 u85 u86 u87 u88 u89 u90 u91 u92 u93 u94 u95 u96 u97 u98 u99 u100 u101 u102 u103 u104 u105 u106 u107 u108 u109 u110 u111 u112 u113 u114 u115 u116 u117 u118 u119 u120 u121 u122 u123 u124 u125 u126 u127 u128 u129 u130 u131 u132 u133 u134 u135 u136 u137 u138 u139 u140 u141 u142 u143 u144 u145 u146 u147 u148 u149 u150 u151 u152 u153 u154 u155 u156 u157 u158 u159 u160 u161 u162 u163 u164 u165 u166 u167 u168 u169 u170 u171 u172 u173 u174 u175 u176 u177 u178 u179 u180 u181 u182 u183 u184 u185 u186 u187 u188 u189 u190 u191 u192 u193 u194 u195 u196 u197 u198 u199 u200 u201 u202 u203 u204 u205 u206 u207 u208 u209 u210 u211 u212 u213 u214 u215 u216 u217 u218 u219 u220 u221 u222 u223 u224 u225 u226 u227 u228 u229 u230 u231 u232 u233 u234 u235 u236 u237 u238 u239 u240 u241 u242 u243 u244 u245 u246 u247 u248 u249 u250 u251 u252 u253 u254 u255 u256 u257 u258 : Value, (∃ x' y' L', Hid (Inv p (j + 1) 0 x' y' (List.map BI.b L')) ∧ L'.length ≤ 2 * (j + 1) ∧ Hid (MonoQ x x' ∧ MonoQ y y') ∧ Hid (PWE w1 w' gs gt p x' y' L' [⟨ga, 46, sidesC x y p V0 V1⟩])) ∧ a' = ⟨#[t0, .slice (some ⟨br, bo, none⟩) n c, t2, t3, u4, t5, .pointer (some ⟨gs, 0, none⟩), t7, t8, t9, .pointer (some ⟨gt, 0, none⟩), .func (Fn.func 30) #[] #[.pointer (some ⟨gs, 0, none⟩), .pointer (some ⟨gt, 0, none⟩)], .func (Fn.func 31) #[] #[.pointer (some ⟨gs, 0, none⟩)], .int .i64 j, .int .i64 k, .pointer (some ⟨ga, 0, none⟩), u16, u17, u18, u19, u20, u21, u22, t23, t24, t25, t26, t27, t28, t29, t30, t31, t32, t33, t34, t35, t36, t37, t38, t39, t40, t41, t42, t43, t44, t45, t46, t47, u48, u49, u50, u51, u52, u53, u54, u55, u56, u57, u58, u59, u60, u61, u62, u63, u64, u65, u66, u67, u68, u69, u70, u71, u72, u73, u74, u75, u76, u77, u78, u79, u80, u81, u82, u83, u84, u85, u86, u87, u88, u89, u90, u91, u92, u93, u94, u95, u96, u97, u98, u99, u100, u101, u102, u103, u104, u105, u106, u107, u108, u109, u110, u111, u112, u113, u114, u115, u116, u117, u118, u119, u120, u121, u122, u123, u124, u125, u126, u127, u128, u129, u130, u131, u132, u133, u134, u135, u136, u137, u138, u139, u140, u141, u142, u143, u144, u145, u146, u147, u148, u149, u150, u151, u152, u153, u154, u155, u156, u157, u158, u159, u160, u161, u162, u163, u164, u165, u166, u167, u168, u169, u170, u171, u172, u173, u174, u175, u176, u177, u178, u179, u180, u181, u182, u183, u184, u185, u186, u187, u188, u189, u190, u191, u192, u193, u194, u195, u196, u197, u198, u199, u200, u201, u202, u203, u204, u205, u206, u207, u208, u209, u210, u211, u212, u213, u214, u215, u216, u217, u218, u219, u220, u221, u222, u223, u224, u225, u226, u227, u228, u229, u230, u231, u232, u233, u234, u235, u236, u237, u238, u239, u240, u241, u242, u243, u244, u245, u246, u247, u248, u249, u250, u251, u252, u253, u254, u255, u256, u257, u258], []⟩) → J a' w') (hM : ∀ (a' : Act) (w' : World), Met J a' w' → K' a' w') :
    cd.wp Try.prog (Exit.then K' (Exit.inBlock 3 (Exit.then K1 Q0))) ⟨#[t0, .slice (some ⟨br, bo, none⟩) n c, t2, t3, u4, t5, .pointer (some ⟨gs, 0, none⟩), t7, t8, t9, .pointer (some ⟨gt, 0, none⟩), .func (Fn.func 30) #[] #[.pointer (some ⟨gs, 0, none⟩), .pointer (some ⟨gt, 0, none⟩)], .func (Fn.func 31) #[] #[.pointer (some ⟨gs, 0, none⟩)], .int .i64 j, .int .i64 k, .pointer (some ⟨ga, 0, none⟩), u16, u17, u18, u19, u20, u21, u22, t23, t24, t25, t26, t27, t28, t29, t30, t31, t32, t33, t34, t35, t36, t37, t38, t39, t40, t41, t42, t43, t44, t45, t46, t47, u48, u49, u50, u51, u52, u53, u54, u55, u56, u57, u58, u59, u60, u61, u62, u63, u64, u65, .int .i64 m5, u67, u68, u69, u70, u71, u72, u73, u74, u75, u76, u77, u78, u79, u80, u81, u82, u83, u84, u85, u86, u87, u88, u89, u90, u91, u92, u93, u94, u95, u96, u97, u98, u99, u100, u101, u102, u103, u104, u105, u106, u107, u108, u109, u110, u111, u112, u113, u114, u115, u116, u117, u118, u119, u120, u121, u122, u123, u124, u125, u126, u127, u128, u129, u130, u131, u132, u133, u134, u135, u136, u137, u138, u139, u140, u141, u142, u143, u144, u145, u146, u147, u148, u149, u150, u151, u152, u153, u154, u155, u156, u157, u158, u159, u160, u161, u162, u163, u164, u165, u166, u167, u168, u169, u170, u171, u172, u173, u174, u175, u176, u177, u178, u179, u180, u181, u182, u183, u184, u185, u186, u187, u188, u189, u190, u191, u192, u193, u194, u195, u196, u197, u198, u199, u200, u201, u202, u203, u204, u205, u206, u207, u208, u209, u210, u211, u212, u213, u214, u215, u216, u217, u218, u219, u220, u221, u222, u223, u224, u225, u226, u227, u228, u229, u230, u231, u232, u233, u234, u235, u236, u237, u238, u239, u240, u241, u242, u243, u244, u245, u246, u247, u248, u249, u250, u251, u252, u253, u254, u255, u256, u257, u258], []⟩ w8 := by
  subst hcd
  have hm5 := hp1
  have HW := hp1
  conv => arg 2; whnf
  have b0 : ((m5 : Int) == 0) = false := beq_eq_false_iff_ne.2 (by omega)
  have b1 : ((m5 : Int) == 1) = false := beq_eq_false_iff_ne.2 (by omega)
  have b2 : ((m5 : Int) == 2) = false := beq_eq_false_iff_ne.2 (by omega)
  have b3 : ((m5 : Int) == 3) = false := beq_eq_false_iff_ne.2 (by omega)
  have b4 : ((m5 : Int) == 4) = true := beq_iff_eq.2 (by omega)
  clear hm4 hm5 HW
  go_wp2
  have hbth := Lib.hid (show (X1 x (Y1 x y)).act ≠ (Y1 x y).act from HI.out.both.2)
  go_loopw [21, 22] (fun v21 _ wr => ∃ q : Nat, q ≤ 2 ∧ v21 = .int .i64 q ∧ ∃ xq yq Lq, Hid (Inv p j 0 xq yq (Lq.map BI.b)) ∧ Lq.length ≤ L.length + q ∧ Hid (MonoQ x xq ∧ MonoQ y yq) ∧ Hid ((q = 0 → xq = x ∧ yq = y) ∧ (q = 1 → xq = x ∧ yq = Y1 x y) ∧ (q = 2 → xq = X1 x (Y1 x y) ∧ yq = Y1 x y)) ∧
    Hid (PWE w1 wr gs gt p xq yq Lq [⟨ga, 46, sidesC x y p V0 V1⟩])) (fun v _ _ => 2 - (intOf v).toNat)
  case atStart => exact ⟨0, by omega, rfl, x, y, L, HI, by omega, ⟨MonoQ.refl x, MonoQ.refl y⟩, ⟨fun _ => ⟨rfl, rfl⟩, fun h => absurd h (by omega), fun h => absurd h (by omega)⟩, hP2⟩
  case round =>
    clear hP2
    obtain ⟨q, hq, rfl, xq, yq, Lq, HQ, hLq, HM, HST, HP⟩ := hrel
    by_cases hq2 : q < 2
    · have hq1 : q ≤ 1 := by omega
      have hfq : Fit p j (sel q xq yq) := by
        unfold sel
        split
        · exact HQ.out.fx
        · exact HQ.out.fy
      obtain ⟨A2, c2, A3, c3, B2, d2, Ks2, Os2, h2⟩ := HP.out
      have gtc : wr.cell? ⟨gt, 0, none⟩ = some (.slice B2 Lq.length d2) := h2.mem.cellK 1 rfl 0
      have k0 : (0 : Int) ≤ (q : Int) := by omega
      have k2 : (q : Int) < 2 := by omega
      obtain ⟨N, hN⟩ : ∃ N, Lq.length = N := ⟨_, rfl⟩
      rw [hN] at gtc
      clear h2
      go_wp2_with fail
      refine (say_any w1 _ gs gt p j q xq yq Lq _ HP.out hq1 hfq (by omega) (by omega) (by omega)).mono ?_
      rintro e w9 ⟨rfl, hsd⟩
      try dsimp only
      obtain ⟨L9, hp9, hi9, hl9, hc9⟩ := said_inv hq1 HQ.out hsd
      have HI9 := Lib.hid hi9
      clear hsd hi9 gtc HP
      obtain ⟨A4, c4, A5, c5, B4, d4, Ks4, Os4, h4⟩ := hp9
      have gtc : w9.cell? ⟨gt, 0, none⟩ = some (.slice B4 L9.length d4) := h4.mem.cellK 1 rfl 0
      rcases hc9 with ⟨hact, Ab, cb, hL9⟩ | ⟨hact, rfl⟩
      · have hl : L9.length = N + 1 := by rw [hL9]; simp [hN]
        rw [hl] at gtc
        obtain ⟨it, hit⟩ : ∃ it, it = (⟨⟨q, (sel q xq yq).term, (sel q xq yq).cyc⟩, Ab, cb⟩ : BI) := ⟨_, rfl⟩
        have hie : L9[N]? = some it := by rw [hL9, hit, ← hN]; simp
        have hmem : it ∈ L9 := List.mem_of_getElem? hie
        obtain ⟨bb, hbb, _, _⟩ := h4.mem.head (by omega)
        subst hbb
        obtain ⟨t0, t1, t2, t3⟩ := h4.beat hie
        have ho1 : 1 - q ≤ 1 := by omega
        have hfo : Fit p j (sel (1 - q) xq yq) := by
          unfold sel
          split
          · exact HQ.out.fx
          · exact HQ.out.fy
        have hbs := HI9.out.bs it.b (List.mem_map_of_mem hmem)
        have HHE := Lib.hid ((inv_sel ho1 HI9.out).hear (List.mem_map_of_mem hmem))
        have HRS := Lib.hid (fun (z : SS) (h : MonoQ (sel (1 - q) xq yq) z) => (mono_back h : MonoQ xq (pu0 (1 - q) xq z) ∧ MonoQ yq (pu1 (1 - q) yq z)))
        have HHR := Lib.hid (hear_any w1 w9 gs gt p j (1 - q) xq yq L9 [⟨ga, 46, sidesC x y p V0 V1⟩] (some ⟨bb, 0, none⟩) d4 ⟨A4, c4, A5, c5, Ks4, Os4, h4⟩ ho1 hfo (by omega) (by omega) it hmem hbs)
        have hST : Hid ((q = 0 → pu0 (1 - q) xq (hearQ (1 - q) (sel (1 - q) xq yq) it.b) = x ∧ pu1 (1 - q) yq (hearQ (1 - q) (sel (1 - q) xq yq) it.b) = Y1 x y) ∧ (q = 1 → pu0 (1 - q) xq (hearQ (1 - q) (sel (1 - q) xq yq) it.b) = X1 x (Y1 x y) ∧ pu1 (1 - q) yq (hearQ (1 - q) (sel (1 - q) xq yq) it.b) = Y1 x y)) := by
          refine ⟨fun h => ?_, fun h => ?_⟩
          · subst h
            obtain ⟨rfl, rfl⟩ := HST.out.1 rfl
            have ha : xq.act = true := hact
            rw [hit]
            refine ⟨rfl, ?_⟩
            unfold Y1
            rw [if_pos ha]
            rfl
          · subst h
            obtain ⟨rfl, hy⟩ := HST.out.2.1 rfl
            subst hy
            have ha : (Y1 xq y).act = true := hact
            rw [hit]
            refine ⟨?_, rfl⟩
            unfold X1
            rw [if_pos ha]
            rfl
        generalize hZ : hearQ (1 - q) (sel (1 - q) xq yq) it.b = Z at HHE HHR hST
        obtain ⟨⟨bf, bt, bc⟩, Ai, ci⟩ := it
        simp only at t0 t1 t2 t3
        have o0 : ((1 : Int) - (q : Int)) = ((1 - q : Nat) : Int) := by omega
        obtain ⟨oq, hoq⟩ : ∃ oq : Nat, 1 - q = oq := ⟨_, rfl⟩
        rw [hoq] at HHE HHR hST HRS o0 ho1
        have hw1 : IntKind.i64.wrap ((1 : Int) - (q : Int)) = (oq : Int) := by rw [o0]; simp [IntKind.wrap, IntKind.bits, IntKind.signed]; omega
        have n0 : (N : Int) < (N : Int) + 1 := by omega
        have n1 : (0 : Int) ≤ (N : Int) := by omega
        clear hit hie hmem hbs hfo h4 hZ hact hL9 hoq
        go_wp2_with fail
        refine HHR.out.mono ?_
        rintro e w10 ⟨rfl, hp10⟩
        try dsimp only
        have HP10 := Lib.hid hp10.e
        clear hp10 t0 t1 t2 t3 gtc
        go_wp2
        go_roundw
        case rel =>
          have hmo := HRS.out Z HHE.out.2
          refine ⟨q + 1, by omega, by go_num, _, _, L9, inv_back ho1 HHE.out.1, by omega, ?_, ?_, HP10⟩
          · exact ⟨HM.out.1.trans hmo.1, HM.out.2.trans hmo.2⟩
          · refine ⟨fun h => absurd h (by omega), fun h => hST.out.1 (by omega), fun h => hST.out.2 (by omega)⟩
        case measure => simp [intOf]; omega
      · rw [hN] at gtc
        have hST : Hid ((q = 0 → xq = x ∧ yq = Y1 x y) ∧ (q = 1 → xq = X1 x (Y1 x y) ∧ yq = Y1 x y)) := by
          refine ⟨fun h => ?_, fun h => ?_⟩
          · subst h
            obtain ⟨rfl, rfl⟩ := HST.out.1 rfl
            have ha : xq.act = false := hact
            refine ⟨rfl, ?_⟩
            unfold Y1
            rw [if_neg (by rw [ha]; simp)]
          · subst h
            obtain ⟨rfl, hy⟩ := HST.out.2.1 rfl
            have ha : yq.act = false := hact
            refine ⟨?_, hy⟩
            unfold X1
            rw [← hy, if_neg (by rw [ha]; simp)]
        have HP9 : Hid (PWE w1 w9 gs gt p xq yq L9 [⟨ga, 46, sidesC x y p V0 V1⟩]) := ⟨A4, c4, A5, c5, B4, d4, Ks4, Os4, h4⟩
        clear h4 hact
        go_wp2
        go_roundw
        case rel =>
          refine ⟨q + 1, by omega, by go_num, xq, yq, L9, HQ, by omega, HM, ?_, HP9⟩
          exact ⟨fun h => absurd h (by omega), fun h => hST.out.1 (by omega), fun h => hST.out.2 (by omega)⟩
        case measure => simp [intOf]; omega
    · obtain rfl : q = 2 := by omega
      obtain ⟨hx1, hy1⟩ := HST.out.2.2 rfl
      have hne : xq.act ≠ yq.act := by
        rw [hx1, hy1]
        exact hbth.out
      obtain ⟨A2, c2, A3, c3, B2, d2, Ks2, Os2, h2⟩ := HP.out
      have e1 : wr.cell? ⟨gs, 1, none⟩ = some (.bool xq.act) := h2.mem.cellK 0 rfl 1
      have e2 : wr.cell? ⟨gs, 8, none⟩ = some (.bool yq.act) := h2.mem.cellK 0 rfl 8
      have hfin : Hid (∃ x' y' L', Hid (Inv p (j + 1) 0 x' y' (L'.map BI.b)) ∧ L'.length ≤ 2 * (j + 1) ∧ Hid (MonoQ x x' ∧ MonoQ y y') ∧ Hid (PWE w1 wr gs gt p x' y' L' [⟨ga, 46, sidesC x y p V0 V1⟩])) :=
        ⟨xq, yq, Lq, HQ.out.up (by omega), by omega, HM, HP⟩
      generalize xq.act = a0 at e1 hne
      generalize yq.act = a1 at e2 hne
      clear h2 HST HQ HM HP hx1 hy1 hbth
      cases a0 <;> cases a1
      · exact absurd rfl hne
      · clear hne
        go_wp2
        go_meet
        exact hfin.out
      · clear hne
        go_wp2
        go_meet
        exact hfin.out
      · exact absurd rfl hne
end Go.Proofs.Ytlccpnloankloaa.Pair
