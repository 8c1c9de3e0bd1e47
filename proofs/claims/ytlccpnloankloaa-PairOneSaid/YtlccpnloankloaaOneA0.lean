/-
  The walk of the law PairOne: arm 0 of the round's switch. Conditions: the state ahead of it.
-/
import Derived.Test.YtlccpnloankloaaOneB
namespace Go.Proofs.Ytlccpnloankloaa.Pair
open Go.RowKit Go.Proofs.Ytlccpnloankloaa.W Go.Proofs.Ytlccpnloankloaa.Ints Go.Proofs.Ytlccpnloankloaa.Keep

set_option maxRecDepth 100000 in
set_option maxHeartbeats 64000000 in
theorem arm0 (n c : Nat) (l : List RB) (p : Int) (w1 : World) (gs gt ga j k m5 : Nat) (x y : SS) (L : List BI) (br bo : Nat) (r : RB) (w8 : World) (V0 V1 : Value)
    (t0 t2 t3 t5 t7 t8 t9 t23 t24 t25 t26 t27 t28 t29 t30 t31 t32 t33 t34 t35 t36 t37 t38 t39 t40 t41 t42 t43 t44 t45 t46 t47 : Value) (u4 u16 u17 u18 u19 u20 u21 u22 u48 u49 u50 u51 u52 u53 u54 u55 u56 u57 u58 u59 u60 u61 u62 u63 u64 u65 u67 u68 u69 u70 u71 u72 u73 u74 u75 u76 u77 u78 u79 u80 u81 u82 u83 u84 u85 u86 u87 u88 u89 u90 u91 u92 u93 u94 u95 u96 u97 u98 u99 u100 u101 u102 u103 u104 u105 u106 u107 u108 u109 u110 u111 u112 u113 u114 u115 u116 u117 u118 u119 u120 u121 u122 u123 u124 u125 u126 u127 u128 u129 u130 u131 u132 u133 u134 u135 u136 u137 u138 u139 u140 u141 u142 u143 u144 u145 u146 u147 u148 u149 u150 u151 u152 u153 u154 u155 u156 u157 u158 u159 u160 u161 u162 u163 u164 u165 u166 u167 u168 u169 u170 u171 u172 u173 u174 u175 u176 u177 u178 u179 u180 u181 u182 u183 u184 u185 u186 u187 u188 u189 u190 u191 u192 u193 u194 u195 u196 u197 u198 u199 u200 u201 u202 u203 u204 u205 u206 u207 u208 u209 u210 u211 u212 u213 u214 u215 u216 u217 u218 u219 u220 u221 u222 u223 u224 u225 u226 u227 u228 u229 u230 u231 u232 u233 u234 u235 u236 u237 u238 u239 u240 u241 u242 u243 u244 u245 u246 u247 u248 u249 u250 u251 u252 u253 u254 u255 u256 u257 u258 : Value) (hg : (n : Int) ≤ 400) (hp1 : 1 ≤ p) (hp4 : p ≤ 4) (_hj : j ≤ n) (HI : Hid (Inv p j 0 x y (L.map BI.b))) (hL : L.length ≤ 2 * j) (hjn : j < n)
    (_HR : Hid (Rd w1 3 (some ⟨br, bo, none⟩) n (rbV l))) (_re : -9223372036854775808 ≤ r.which) (_rf : r.which ≤ 9223372036854775807) (_hj0 : (0 : Int) ≤ (j : Int)) (_hj1 : (j : Int) < (n : Int)) (hk1 : k ≤ 1)
    (_HRK : Hid (l[j]? = some r)) (_r2 : w8.cell? ⟨br, bo + j * 3 + 2, none⟩ = some (.int .i64 r.which)) (_hbr : br < ga) (hP2 : Hid (PWE w1 w8 gs gt p x y L [⟨ga, 46, sidesC x y p V0 V1⟩])) (hfk : Fit p j (sel k x y))
    (hm0 : m5 = 0) (hact0 : (sel k x y).act = true) (Q0 : Exit → Act → World → Prop) (K1 J K' : Act → World → Prop) (cd : Code) (hcd : code4 = cd)
    (hJ : ∀ (a' : Act) (w' : World), (∃ u4 u16 u17 u18 u19 u20 u21 u22 u48 u49 u50 u51 u52 u53 u54 u55 u56 u57 u58 u59 u60 u61 u62 u63 u64 u65 u66 u67 u68 u69 u70 u71 u72 u73 u74 u75 u76 u77 u78 u79 u80 u81 u82 u83 u84 u85 u86 u87 u88 u89 u90 u91 u92 u93 u94 u95 u96 u97 u98 u99 u100 u101 u102 u103 u104 u105 u106 u107 u108 u109 u110 u111 u112 u113 u114 u115 u116 u117 u118 u119 u120 u121 u122 u123 u124 u125 u126 u127 u128 u129 u130 u131 u132 u133 u134 u135 u136 u137 u138 u139 u140 u141 u142 u143 u144 u145 u146 u147 u148 u149 u150 u151 u152 u153 u154 u155 u156 u157 u158 u159 u160 u161 u162 u163 u164 u165 u166 u167 u168 u169 u170 u171 u172 u173 u174 u175 u176 u177 u178 u179 u180 u181 u182 u183 u184 u185 u186 u187 u188 u189 u190 u191 u192 u193 u194 u195 u196 u197 u198 u199 u200 u201 u202 u203 u204 u205 u206 u207 u208 u209 u210 u211 u212 u213 u214 u215 u216 u217 u218 u219 u220 u221 u222 u223 u224 u225 u226 u227 u228 u229 u230 u231 u232 u233 u234 u235 u236 u237 u238 u239 u240 u241 u242 u243 u244 u245 u246 u247 u248 u249 u250 u251 u252 u253 u254 u255 u256 u257 u258 : Value, (∃ x' y' L', Hid (Inv p (j + 1) 0 x' y' (List.map BI.b L')) ∧ L'.length ≤ 2 * (j + 1) ∧ Hid (MonoQ x x' ∧ MonoQ y y') ∧ Hid (PWE w1 w' gs gt p x' y' L' [⟨ga, 46, sidesC x y p V0 V1⟩])) ∧ a' = ⟨#[t0, .slice (some ⟨br, bo, none⟩) n c, t2, t3, u4, t5, .pointer (some ⟨gs, 0, none⟩), t7, t8, t9, .pointer (some ⟨gt, 0, none⟩), .func (Fn.func 30) #[] #[.pointer (some ⟨gs, 0, none⟩), .pointer (some ⟨gt, 0, none⟩)], .func (Fn.func 31) #[] #[.pointer (some ⟨gs, 0, none⟩)], .int .i64 j, .int .i64 k, .pointer (some ⟨ga, 0, none⟩), u16, u17, u18, u19, u20, u21, u22, t23, t24, t25, t26, t27, t28, t29, t30, t31, t32, t33, t34, t35, t36, t37, t38, t39, t40, t41, t42, t43, t44, t45, t46, t47, u48, u49, u50, u51, u52, u53, u54, u55, u56, u57, u58, u59, u60, u61, u62, u63, u64, u65, u66, u67, u68, u69, u70, u71, u72, u73, u74, u75, u76, u77, u78, u79, u80, u81, u82, u83, u84, u85, u86, u87, u88, u89, u90, u91, u92, u93, u94, u95, u96, u97, u98, u99, u100, u101, u102, u103, u104, u105, u106, u107, u108, u109, u110, u111, u112, u113, u114, u115, u116, u117, u118, u119, u120, u121, u122, u123, u124, u125, u126, u127, u128, u129, u130, u131, u132, u133, u134, u135, u136, u137, u138, u139, u140, u141, u142, u143, u144, u145, u146, u147, u148, u149, u150, u151, u152, u153, u154, u155, u156, u157, u158, u159, u160, u161, u162, u163, u164, u165, u166, u167, u168, u169, u170, u171, u172, u173, u174, u175, u176, u177, u178, u179, u180, u181, u182, u183, u184, u185, u186, u187, u188, u189, u190, u191, u192, u193, u194, u195, u196, u197, u198, u199, u200, u201, u202, u203, u204, u205, u206, u207, u208, u209, u210, u211, u212, u213, u214, u215, u216, u217, u218, u219, u220, u221, u222, u223, u224, u225, u226, u227, u228, u229, u230, u231, u232, u233, u234, u235, u236, u237, u238, u239, u240, u241, u242, u243, u244, u245, u246, u247, u248, u249, u250, u251, u252, u253, u254, u255, u256, u257, u258], []⟩) → J a' w') (hM : ∀ (a' : Act) (w' : World), Met J a' w' → K' a' w') :
    cd.wp Try.prog (Exit.then K' (Exit.inBlock 3 (Exit.then K1 Q0))) ⟨#[t0, .slice (some ⟨br, bo, none⟩) n c, t2, t3, u4, t5, .pointer (some ⟨gs, 0, none⟩), t7, t8, t9, .pointer (some ⟨gt, 0, none⟩), .func (Fn.func 30) #[] #[.pointer (some ⟨gs, 0, none⟩), .pointer (some ⟨gt, 0, none⟩)], .func (Fn.func 31) #[] #[.pointer (some ⟨gs, 0, none⟩)], .int .i64 j, .int .i64 k, .pointer (some ⟨ga, 0, none⟩), u16, u17, u18, u19, u20, u21, u22, t23, t24, t25, t26, t27, t28, t29, t30, t31, t32, t33, t34, t35, t36, t37, t38, t39, t40, t41, t42, t43, t44, t45, t46, t47, u48, u49, u50, u51, u52, u53, u54, u55, u56, u57, u58, u59, u60, u61, u62, u63, u64, u65, .int .i64 m5, u67, u68, u69, u70, u71, u72, u73, u74, u75, u76, u77, u78, u79, u80, u81, u82, u83, u84, u85, u86, u87, u88, u89, u90, u91, u92, u93, u94, u95, u96, u97, u98, u99, u100, u101, u102, u103, u104, u105, u106, u107, u108, u109, u110, u111, u112, u113, u114, u115, u116, u117, u118, u119, u120, u121, u122, u123, u124, u125, u126, u127, u128, u129, u130, u131, u132, u133, u134, u135, u136, u137, u138, u139, u140, u141, u142, u143, u144, u145, u146, u147, u148, u149, u150, u151, u152, u153, u154, u155, u156, u157, u158, u159, u160, u161, u162, u163, u164, u165, u166, u167, u168, u169, u170, u171, u172, u173, u174, u175, u176, u177, u178, u179, u180, u181, u182, u183, u184, u185, u186, u187, u188, u189, u190, u191, u192, u193, u194, u195, u196, u197, u198, u199, u200, u201, u202, u203, u204, u205, u206, u207, u208, u209, u210, u211, u212, u213, u214, u215, u216, u217, u218, u219, u220, u221, u222, u223, u224, u225, u226, u227, u228, u229, u230, u231, u232, u233, u234, u235, u236, u237, u238, u239, u240, u241, u242, u243, u244, u245, u246, u247, u248, u249, u250, u251, u252, u253, u254, u255, u256, u257, u258], []⟩ w8 := by
  subst hcd
  have hm5 := hp1
  have HW := hp1
  conv => arg 2; whnf
  have b0 : ((m5 : Int) == 0) = true := beq_iff_eq.2 (by omega)
  clear hm0 hm5 HW
  obtain ⟨A2, c2, A3, c3, B2, d2, Ks2, Os2, h2⟩ := hP2.out
  obtain ⟨e0, e1, e2, e3, e4, e5, e6⟩ := h2.seven hk1
  have k0 : (0 : Int) ≤ (k : Int) := by omega
  have k2 : (k : Int) < 2 := by omega
  have hact := hact0
  · have hrd := h2.rdk k
    have hcyc := hfk.c
    obtain ⟨c2n, hc2⟩ : ∃ m, (sel k x y).cyc + 1 = m := ⟨_, rfl⟩
    have hDC := doneK hfk (by omega) (by omega) hk1 hact (sm c2n) hc2
    have HJ0 := (inv_sel hk1 HI.out).done
    have hmd := mono_done (sel k x y)
    have H2 := Lib.hid h2
    have HRS := Lib.hid (fun (z : SS) (h : MonoQ (sel k x y) z) => (mono_back h : MonoQ x (pu0 k x z) ∧ MonoQ y (pu1 k y z)))
    generalize hSk : sel k x y = S at *
    generalize sel k A2 A3 = A at *
    generalize sel k c2 c3 = c at *
    obtain ⟨act, term, cyc, sil⟩ := S
    have HSK := Lib.hid hSk
    simp only at hact hc2 hcyc
    subst hact
    have HJ : Hid (Inv p (j + 1) k ⟨true, term, c2n, sil⟩ (sel k y x) (L.map BI.b)) := by
      rw [← hc2]
      exact HJ0
    have HMD : Hid (MonoQ ⟨true, term, cyc, sil⟩ ⟨true, term, c2n, sil⟩) := by
      rw [← hc2]
      exact hmd
    have hsm1 := sm_succ cyc
    rw [hc2] at hsm1
    obtain ⟨T, hT⟩ : ∃ T : Int, (cyc : Int) * ((cyc : Int) + 1) / 2 = T := ⟨_, rfl⟩
    have hsm : sm cyc = [(cyc : Int), T] := by simp [sm, hT]
    have hTb : 0 ≤ T ∧ T ≤ 1000000 := by have := tri_bd (n := cyc) (by omega); omega
    rw [hT] at hsm1
    have HS1 := Lib.hid hsm1
    have HRD := Lib.hid hrd
    have HRX : Hid (Rd w8 1 A 2 (ints [(cyc : Int), T])) := by
      rw [← hsm]
      exact hrd
    have DC : Hid (cycledF [] (⟨k, true, term, cyc, sm cyc, sil, p⟩ : SD (List Int)) 2 (sm c2n) 2 = ((⟨k, true, term, c2n, sm c2n, sil, p⟩ : SD (List Int)), 0)) := hDC
    have hT0 := hTb.1
    have hT1 := hTb.2
    have hy0 : (0 : Int) ≤ (cyc : Int) := by omega
    have hy1 : (cyc : Int) ≤ 1000000 := by omega
    have hy2 : T ≤ 1000000000 := by omega
    have hw1 : IntKind.i64.wrap ((cyc : Int) + 1) = (c2n : Int) := by simp [IntKind.wrap, IntKind.bits, IntKind.signed]; omega
    have hgsl := (H2.out.mem.ltK 0 rfl).2
    have hcell : ∀ w', Below w8.heap.size w8 w' → w'.cell? ⟨gs, k * 7, none⟩ = some (.int .i64 k) ∧ w'.cell? ⟨gs, k * 7 + 1, none⟩ = some (.bool true) ∧ w'.cell? ⟨gs, k * 7 + 2, none⟩ = some (.int .i64 term) ∧ w'.cell? ⟨gs, k * 7 + 3, none⟩ = some (.int .i64 cyc) ∧ w'.cell? ⟨gs, k * 7 + 4, none⟩ = some (.slice A 2 c) ∧ w'.cell? ⟨gs, k * 7 + 5, none⟩ = some (.int .i64 sil) ∧ w'.cell? ⟨gs, k * 7 + 6, none⟩ = some (.int .i64 p) :=
      fun w' h => ⟨(h.cell hgsl).trans e0, (h.cell hgsl).trans e1, (h.cell hgsl).trans e2, (h.cell hgsl).trans e3, (h.cell hgsl).trans e4, (h.cell hgsl).trans e5, (h.cell hgsl).trans e6⟩
    have HC := Lib.hid hcell
    have HC2 := Lib.hid (fun w' o (hh : Below _ _ w') => hcell (w'.alloc o) (hh.trans ((below_alloc o).mono hh.size)))
    have hq0 := HC.out (World.drew w8) (below_drewN (Below.refl _ _) 1)
    have hqB := HC.out (World.drew (w8.alloc (.cells #[.int .i64 0, .bool false, .int .i64 0, .int .i64 0, .slice none 0 0, .int .i64 0, .int .i64 0] 25))) (below_drewN (below_alloc _) 1)
    have hs2 : (sm c2n).length = 2 := rfl
    go_upto_region 23 with fail
    clear h2 e0 e1 e2 e3 e4 e5 e6 hrd hDC HJ0 hmd hsm hsm1 hT hTb hcell hfk hP2 hSk
    go_cut [16, 17] from 48 to 258 (fun t16 e17 wc => ∃ gx A4 c4, t16 = .pointer (some ⟨gx, 0, none⟩) ∧ e17 = .int .i64 0 ∧ Hid (PW w1 wc gs gt p x y L [⟨ga, 46, sidesC x y p V0 V1⟩] A2 c2 A3 c3 B2 d2 (⟨gx, 25, #[.int .i64 k, .bool true, .int .i64 term, .int .i64 c2n, .slice A4 2 c4, .int .i64 sil, .int .i64 p]⟩ :: Ks2) (imgR A4 c4 c2n :: Os2)))
    case first =>
      first
        | (go_region_held3 (fun w' => w'.cell? ⟨gs, k * 7, none⟩ = some (.int .i64 k) ∧ w'.cell? ⟨gs, k * 7 + 1, none⟩ = some (.bool true) ∧ w'.cell? ⟨gs, k * 7 + 2, none⟩ = some (.int .i64 term) ∧ w'.cell? ⟨gs, k * 7 + 3, none⟩ = some (.int .i64 cyc) ∧ w'.cell? ⟨gs, k * 7 + 4, none⟩ = some (.slice A 2 c) ∧ w'.cell? ⟨gs, k * 7 + 5, none⟩ = some (.int .i64 sil) ∧ w'.cell? ⟨gs, k * 7 + 6, none⟩ = some (.int .i64 p))
            (first | with_reducible exact hq0 | with_reducible exact hqB | with_reducible exact y1 | with_reducible exact y2 | with_reducible exact y3 | with_reducible exact y4 | with_reducible exact y5 | with_reducible exact y6 | fail)
            (first
              | (go_at_call 33
                 refine (after_any A c (cyc : Int) T _ (HRX.out.drew) hy0 hy1 hT0 hy2).mono ?_
                 rintro e w9 ⟨B9, d9, rfl, r9, hb9⟩
                 try dsimp only
                 rw [← HS1.out] at r9
                 have R9 := Lib.hid r9
                 have R9z := Lib.hid (r9.alloc (.cells #[.int .i64 0, .bool false, .int .i64 0, .int .i64 0, .slice none 0 0, .int .i64 0, .int .i64 0] 25))
                 have HB9 : Hid (Below w8.heap.size w8 w9) := pre_drew hb9
                 have y1 := HC.out w9 HB9.out
                 have y2 := HC2.out w9 (.cells #[.int .i64 0, .bool false, .int .i64 0, .int .i64 0, .slice none 0 0, .int .i64 0, .int .i64 0] 25) HB9.out
                 have M9 := Lib.hid (H2.out.mem.below HB9.out))
              | (go_at_call 33
                 refine (after_any A c (cyc : Int) T _ ((HRX.out.alloc (.cells #[.int .i64 0, .bool false, .int .i64 0, .int .i64 0, .slice none 0 0, .int .i64 0, .int .i64 0] 25)).drew) hy0 hy1 hT0 hy2).mono ?_
                 rintro e w9 ⟨B9, d9, rfl, r9, hb9⟩
                 try dsimp only
                 rw [← HS1.out] at r9
                 have R9 := Lib.hid r9
                 have HB9 : Hid (Below w8.heap.size w8 w9) := (below_alloc (.cells #[.int .i64 0, .bool false, .int .i64 0, .int .i64 0, .slice none 0 0, .int .i64 0, .int .i64 0] 25)).trans ((pre_drew hb9).mono (by simp))
                 have y1 := HC.out w9 HB9.out
                 have M9B := Lib.hid ((H2.out.mem.alloc 25 #[.int .i64 0, .bool false, .int .i64 0, .int .i64 0, .slice none 0 0, .int .i64 0, .int .i64 0]).below (pre_drew hb9)))
              | (go_at_call 21
                 (
                   refine (Done_any k true term cyc A 2 c sil p (sm cyc) B9 2 d9 (sm c2n) _ (HRD.out.below HB9.out) (by omega) R9.out (by omega)).mono ?_
                   intro e w10 hf10
                   rw [DC.out] at hf10
                   obtain ⟨A4, c4, rfl, ho, hb⟩ := hf10
                   simp only [SD.val, SD.set, hs2] at ho ⊢
                   have HB10 : Hid (Below w8.heap.size w8 w10) := HB9.out.trans (hb.mono HB9.out.size)
                   have y3 := HC.out w10 HB10.out
                   have y4 := HC2.out w10 (.cells #[.int .i64 k, .bool true, .int .i64 term, .int .i64 c2n, .slice A4 2 c4, .int .i64 sil, .int .i64 p] 25) HB10.out
                   have y5 := HC2.out w10 (.cells #[.int .i64 0, .bool false, .int .i64 0, .int .i64 0, .slice none 0 0, .int .i64 0, .int .i64 0] 25) HB10.out
                   have M10 := Lib.hid (M9.out.made hb ho)))
              | (go_at_call 21
                 (
                   refine (Done_any k true term cyc A 2 c sil p (sm cyc) B9 2 d9 (sm c2n) _ (HRD.out.below HB9.out) (by omega) R9.out (by omega)).mono ?_
                   intro e w10 hf10
                   rw [DC.out] at hf10
                   obtain ⟨A4, c4, rfl, ho, hb⟩ := hf10
                   simp only [SD.val, SD.set, hs2] at ho ⊢
                   have HB10 : Hid (Below w8.heap.size w8 w10) := HB9.out.trans (hb.mono HB9.out.size)
                   have y3 := HC.out w10 HB10.out
                   have y4 := HC.out _ (bel7 HB10.out w8.heap.size (Nat.le_refl _) HB10.out.size (.int .i64 k) (.bool true) (.int .i64 term) (.int .i64 c2n) (.slice A4 2 c4) (.int .i64 sil) (.int .i64 p))
                   have M10B := Lib.hid (M9B.out.made hb ho)
                   have zc0 := M10B.out.cellK 0 rfl
                   have zf0 := M10B.out.frozenK 0 rfl))
              | (go_at_call 21
                 (
                   refine (Done_any k true term cyc A 2 c sil p (sm cyc) B9 2 d9 (sm c2n) _ ((HRD.out.below HB9.out).alloc _) (by omega) R9z.out (by omega)).mono ?_
                   intro e w10 hf10
                   rw [DC.out] at hf10
                   obtain ⟨A4, c4, rfl, ho, hb⟩ := hf10
                   simp only [SD.val, SD.set, hs2] at ho ⊢
                   have HB10 : Hid (Below w8.heap.size w8 w10) := (HB9.out.trans ((below_alloc (.cells #[.int .i64 0, .bool false, .int .i64 0, .int .i64 0, .slice none 0 0, .int .i64 0, .int .i64 0] 25)).mono HB9.out.size)).trans (hb.mono (by simp; have := HB9.out.size; omega))
                   have y3 := HC.out w10 HB10.out
                   have y4 := HC.out _ (bel7 HB10.out w9.heap.size HB9.out.size HB10.out.size (.int .i64 k) (.bool true) (.int .i64 term) (.int .i64 c2n) (.slice A4 2 c4) (.int .i64 sil) (.int .i64 p))
                   have M10C := Lib.hid ((M9.out.alloc 25 #[.int .i64 0, .bool false, .int .i64 0, .int .i64 0, .slice none 0 0, .int .i64 0, .int .i64 0]).made hb ho)
                   have zc0 := M10C.out.cellK 0 rfl
                   have zf0 := M10C.out.frozenK 0 rfl))
              | fail))
        | fail
      all_goals first
        | (
          have M2 := Lib.hid (M10.out.alloc 25 #[.int .i64 k, .bool true, .int .i64 term, .int .i64 c2n, .slice A4 2 c4, .int .i64 sil, .int .i64 p])
          clear y1 y2 y3 y4 y5 hq0 hqB HC HC2 M9 M10 R9 R9z HRX HRD HB9 HB10 ho hb
          obtain ⟨gx, hgx⟩ : ∃ gx, w10.heap.size = gx := ⟨_, rfl⟩
          rw [hgx] at M2 ⊢
          clear hgx
          generalize World.alloc w10 _ = w2 at M2 ⊢
          have hs7 : Hid (PW w1 w2 gs gt p x y L [⟨ga, 46, sidesC x y p V0 V1⟩] A2 c2 A3 c3 B2 d2 (⟨gx, 25, #[.int .i64 k, .bool true, .int .i64 term, .int .i64 c2n, .slice A4 2 c4, .int .i64 sil, .int .i64 p]⟩ :: Ks2) (imgR A4 c4 c2n :: Os2)) :=
            ⟨(mem_sink M2.out).upO 1 rfl, List.mem_cons_of_mem _ H2.out.i0, List.mem_cons_of_mem _ H2.out.i1, fun i hi => List.mem_cons_of_mem _ (H2.out.im i hi), fun b hb => List.mem_cons_of_mem _ (H2.out.kx b hb)⟩
          go_wp2_with fail
          go_meet
          exact ⟨gx, A4, c4, rfl, rfl, hs7⟩)
        | (
          have M2 := Lib.hid (((((((M10B.out.set (i := 0) (.int .i64 k)).set (i := 1) (.bool true)).set (i := 2) (.int .i64 term)).set (i := 3) (.int .i64 c2n)).set (i := 4) (.slice A4 2 c4)).set (i := 5) (.int .i64 sil)).set (i := 6) (.int .i64 p))
          simp only [List.setIfInBounds_toArray, List.set_cons_zero, List.set_cons_succ] at M2
          clear y1 y3 y4 zc0 zf0 hq0 hqB HC HC2 M9B M10B R9 HRX HRD HB9 HB10 ho hb
          obtain ⟨gx, hgx⟩ : ∃ gx, w8.heap.size = gx := ⟨_, rfl⟩
          rw [hgx] at M2 ⊢
          clear hgx
          generalize World.setCell (World.setCell (World.setCell (World.setCell (World.setCell (World.setCell (World.setCell w10 _ _) _ _) _ _) _ _) _ _) _ _) _ _ = w2 at M2 ⊢
          have hs7 : Hid (PW w1 w2 gs gt p x y L [⟨ga, 46, sidesC x y p V0 V1⟩] A2 c2 A3 c3 B2 d2 (⟨gx, 25, #[.int .i64 k, .bool true, .int .i64 term, .int .i64 c2n, .slice A4 2 c4, .int .i64 sil, .int .i64 p]⟩ :: Ks2) (imgR A4 c4 c2n :: Os2)) :=
            ⟨(mem_sink M2.out).upO 1 rfl, List.mem_cons_of_mem _ H2.out.i0, List.mem_cons_of_mem _ H2.out.i1, fun i hi => List.mem_cons_of_mem _ (H2.out.im i hi), fun b hb => List.mem_cons_of_mem _ (H2.out.kx b hb)⟩
          go_wp2_with fail
          go_meet
          exact ⟨gx, A4, c4, rfl, rfl, hs7⟩)
        | (
          have M2 := Lib.hid (((((((M10C.out.set (i := 0) (.int .i64 k)).set (i := 1) (.bool true)).set (i := 2) (.int .i64 term)).set (i := 3) (.int .i64 c2n)).set (i := 4) (.slice A4 2 c4)).set (i := 5) (.int .i64 sil)).set (i := 6) (.int .i64 p))
          simp only [List.setIfInBounds_toArray, List.set_cons_zero, List.set_cons_succ] at M2
          clear y1 y2 y3 y4 zc0 zf0 hq0 hqB HC HC2 M9 M10C R9 R9z HRX HRD HB9 HB10 ho hb
          obtain ⟨gx, hgx⟩ : ∃ gx, w9.heap.size = gx := ⟨_, rfl⟩
          rw [hgx] at M2 ⊢
          clear hgx
          generalize World.setCell (World.setCell (World.setCell (World.setCell (World.setCell (World.setCell (World.setCell w10 _ _) _ _) _ _) _ _) _ _) _ _) _ _ = w2 at M2 ⊢
          have hs7 : Hid (PW w1 w2 gs gt p x y L [⟨ga, 46, sidesC x y p V0 V1⟩] A2 c2 A3 c3 B2 d2 (⟨gx, 25, #[.int .i64 k, .bool true, .int .i64 term, .int .i64 c2n, .slice A4 2 c4, .int .i64 sil, .int .i64 p]⟩ :: Ks2) (imgR A4 c4 c2n :: Os2)) :=
            ⟨(mem_sink M2.out).upO 1 rfl, List.mem_cons_of_mem _ H2.out.i0, List.mem_cons_of_mem _ H2.out.i1, fun i hi => List.mem_cons_of_mem _ (H2.out.im i hi), fun b hb => List.mem_cons_of_mem _ (H2.out.kx b hb)⟩
          go_wp2_with fail
          go_meet
          exact ⟨gx, A4, c4, rfl, rfl, hs7⟩)
    case rest =>
      obtain ⟨gx, A4, c4, rfl, rfl, hs7⟩ := hcut
      clear hq0 hqB HC HC2 HRX HRD H2
      have x0 := hs7.out.mem.cellK 2 rfl
      obtain ⟨e0, e1, e2, e3, e4, e5, e6⟩ := hs7.out.seven hk1
      rw [HSK.out] at e1 e2 e3 e5
      go_upto_region 24 with fail
      go_quiet (fail)
      go_upto_region 26 with fail
      have hs8 : Hid (PW w1 (wc.drewN nq) gs gt p x y L [⟨ga, 46, sidesC x y p V0 V1⟩] A2 c2 A3 c3 B2 d2 (⟨gx, 25, #[.int .i64 k, .bool true, .int .i64 term, .int .i64 c2n, .slice A4 2 c4, .int .i64 sil, .int .i64 p]⟩ :: Ks2) (imgR A4 c4 c2n :: Os2)) := ⟨hs7.out.mem.drewN nq, hs7.out.i0, hs7.out.i1, hs7.out.im, hs7.out.kx⟩
      clear x0 e0 e1 e2 e3 e4 e5 e6 hs7
      generalize World.drewN wc nq = w3 at hs8 ⊢
      have x0 := hs8.out.mem.cellK 2 rfl
      obtain ⟨e0, e1, e2, e3, e4, e5, e6⟩ := hs8.out.seven hk1
      have fz := hs8.out.mem.frozenK 0 rfl
      go_wp2
      go_meet
      exact ⟨_, _, L, inv_back hk1 HJ.out, by omega, HRS.out ⟨true, term, c2n, sil⟩ HMD.out, (hs8.out.putS hk1 ⟨true, term, c2n, sil⟩ A4 c4 (List.mem_cons_self ..)).e⟩
end Go.Proofs.Ytlccpnloankloaa.Pair
