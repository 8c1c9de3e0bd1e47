/-
  The walk of the law PairOne: arm 3 of the round's switch. Conditions: the state ahead of it.
-/
import Derived.Test.YtlccpnloankloaaOneB
namespace Go.Proofs.Ytlccpnloankloaa.Pair
open Go.RowKit Go.Proofs.Ytlccpnloankloaa.W Go.Proofs.Ytlccpnloankloaa.Ints Go.Proofs.Ytlccpnloankloaa.Keep

set_option maxRecDepth 100000 in
set_option maxHeartbeats 64000000 in
theorem arm3 (n c : Nat) (l : List RB) (p : Int) (w1 : World) (gs gt ga j k m5 : Nat) (x y : SS) (L : List BI) (br bo : Nat) (r : RB) (w8 : World) (V0 V1 : Value)
    (t0 t2 t3 t5 t7 t8 t9 t23 t24 t25 t26 t27 t28 t29 t30 t31 t32 t33 t34 t35 t36 t37 t38 t39 t40 t41 t42 t43 t44 t45 t46 t47 : Value) (u4 u16 u17 u18 u19 u20 u21 u22 u48 u49 u50 u51 u52 u53 u54 u55 u56 u57 u58 u59 u60 u61 u62 u63 u64 u65 u67 u68 u69 u70 u71 u72 u73 u74 u75 u76 u77 u78 u79 u80 u81 u82 u83 u84 u85 u86 u87 u88 u89 u90 u91 u92 u93 u94 u95 u96 u97 u98 u99 u100 u101 u102 u103 u104 u105 u106 u107 u108 u109 u110 u111 u112 u113 u114 u115 u116 u117 u118 u119 u120 u121 u122 u123 u124 u125 u126 u127 u128 u129 u130 u131 u132 u133 u134 u135 u136 u137 u138 u139 u140 u141 u142 u143 u144 u145 u146 u147 u148 u149 u150 u151 u152 u153 u154 u155 u156 u157 u158 u159 u160 u161 u162 u163 u164 u165 u166 u167 u168 u169 u170 u171 u172 u173 u174 u175 u176 u177 u178 u179 u180 u181 u182 u183 u184 u185 u186 u187 u188 u189 u190 u191 u192 u193 u194 u195 u196 u197 u198 u199 u200 u201 u202 u203 u204 u205 u206 u207 u208 u209 u210 u211 u212 u213 u214 u215 u216 u217 u218 u219 u220 u221 u222 u223 u224 u225 u226 u227 u228 u229 u230 u231 u232 u233 u234 u235 u236 u237 u238 u239 u240 u241 u242 u243 u244 u245 u246 u247 u248 u249 u250 u251 u252 u253 u254 u255 u256 u257 u258 : Value) (hg : (n : Int) ≤ 400) (hp1 : 1 ≤ p) (hp4 : p ≤ 4) (_hj : j ≤ n) (HI : Hid (Inv p j 0 x y (L.map BI.b))) (hL : L.length ≤ 2 * j) (hjn : j < n)
    (_HR : Hid (Rd w1 3 (some ⟨br, bo, none⟩) n (rbV l))) (_re : -9223372036854775808 ≤ r.which) (_rf : r.which ≤ 9223372036854775807) (_hj0 : (0 : Int) ≤ (j : Int)) (_hj1 : (j : Int) < (n : Int)) (hk1 : k ≤ 1)
    (_HRK : Hid (l[j]? = some r)) (_r2 : w8.cell? ⟨br, bo + j * 3 + 2, none⟩ = some (.int .i64 r.which)) (_hbr : br < ga) (hP2 : Hid (PWE w1 w8 gs gt p x y L [⟨ga, 46, sidesC x y p V0 V1⟩])) (hfk : Fit p j (sel k x y))
    (hmm : m5 = 3) (Q0 : Exit → Act → World → Prop) (K1 J K' : Act → World → Prop) (cd : Code) (hcd : code4 = cd)
    (hJ : ∀ (a' : Act) (w' : World), (∃ u4 u16 u17 u18 u19 u20 u21 u22 u48 u49 u50 u51 u52 u53 u54 u55 u56 u57 u58 u59 u60 u61 u62 u63 u64 u65 u66 u67 u68 u69 u70 u71 u72 u73 u74 u75 u76 u77 u78 u79 u80 u81 u82 u83 u84 u85 u86 u87 u88 u89 u90 u91 u92 u93 u94 u95 u96 u97 u98 u99 u100 u101 u102 u103 u104 u105 u106 u107 u108 u109 u110 u111 u112 u113 u114 u115 u116 u117 u118 u119 u120 u121 u122 u123 u124 u125 u126 u127 u128 u129 u130 u131 u132 u133 u134 u135 u136 u137 u138 u139 u140 u141 u142 u143 u144 u145 u146 u147 u148 u149 u150 u151 u152 u153 u154 u155 u156 u157 u158 u159 u160 u161 u162 u163 u164 u165 u166 u167 u168 u169 u170 u171 u172 u173 u174 u175 u176 u177 u178 u179 u180 u181 u182 u183 u184 u185 u186 u187 u188 u189 u190 u191 u192 u193 u194 u195 u196 u197 u198 u199 u200 u201 u202 u203 u204 u205 u206 u207 u208 u209 u210 u211 u212 u213 u214 u215 u216 u217 u218 u219 u220 u221 u222 u223 u224 u225 u226 u227 u228 u229 u230 u231 u232 u233 u234 u235 u236 u237 u238 u239 u240 u241 u242 u243 u244 u245 u246 u247 u248 u249 u250 u251 u252 u253 u254 u255 u256 u257 u258 : Value, (∃ x' y' L', Hid (Inv p (j + 1) 0 x' y' (List.map BI.b L')) ∧ L'.length ≤ 2 * (j + 1) ∧ Hid (MonoQ x x' ∧ MonoQ y y') ∧ Hid (PWE w1 w' gs gt p x' y' L' [⟨ga, 46, sidesC x y p V0 V1⟩])) ∧ a' = ⟨#[t0, .slice (some ⟨br, bo, none⟩) n c, t2, t3, u4, t5, .pointer (some ⟨gs, 0, none⟩), t7, t8, t9, .pointer (some ⟨gt, 0, none⟩), .func (Fn.func 30) #[] #[.pointer (some ⟨gs, 0, none⟩), .pointer (some ⟨gt, 0, none⟩)], .func (Fn.func 31) #[] #[.pointer (some ⟨gs, 0, none⟩)], .int .i64 j, .int .i64 k, .pointer (some ⟨ga, 0, none⟩), u16, u17, u18, u19, u20, u21, u22, t23, t24, t25, t26, t27, t28, t29, t30, t31, t32, t33, t34, t35, t36, t37, t38, t39, t40, t41, t42, t43, t44, t45, t46, t47, u48, u49, u50, u51, u52, u53, u54, u55, u56, u57, u58, u59, u60, u61, u62, u63, u64, u65, u66, u67, u68, u69, u70, u71, u72, u73, u74, u75, u76, u77, u78, u79, u80, u81, u82, u83, u84, u85, u86, u87, u88, u89, u90, u91, u92, u93, u94, u95, u96, u97, u98, u99, u100, u101, u102, u103, u104, u105, u106, u107, u108, u109, u110, u111, u112, u113, u114, u115, u116, u117, u118, u119, u120, u121, u122, u123, u124, u125, u126, u127, u128, u129, u130, u131, u132, u133, u134, u135, u136, u137, u138, u139, u140, u141, u142, u143, u144, u145, u146, u147, u148, u149, u150, u151, u152, u153, u154, u155, u156, u157, u158, u159, u160, u161, u162, u163, u164, u165, u166, u167, u168, u169, u170, u171, u172, u173, u174, u175, u176, u177, u178, u179, u180, u181, u182, u183, u184, u185, u186, u187, u188, u189, u190, u191, u192, u193, u194, u195, u196, u197, u198, u199, u200, u201, u202, u203, u204, u205, u206, u207, u208, u209, u210, u211, u212, u213, u214, u215, u216, u217, u218, u219, u220, u221, u222, u223, u224, u225, u226, u227, u228, u229, u230, u231, u232, u233, u234, u235, u236, u237, u238, u239, u240, u241, u242, u243, u244, u245, u246, u247, u248, u249, u250, u251, u252, u253, u254, u255, u256, u257, u258], []⟩) → J a' w') (hM : ∀ (a' : Act) (w' : World), Met J a' w' → K' a' w') :
    cd.wp Try.prog (Exit.then K' (Exit.inBlock 3 (Exit.then K1 Q0))) ⟨#[t0, .slice (some ⟨br, bo, none⟩) n c, t2, t3, u4, t5, .pointer (some ⟨gs, 0, none⟩), t7, t8, t9, .pointer (some ⟨gt, 0, none⟩), .func (Fn.func 30) #[] #[.pointer (some ⟨gs, 0, none⟩), .pointer (some ⟨gt, 0, none⟩)], .func (Fn.func 31) #[] #[.pointer (some ⟨gs, 0, none⟩)], .int .i64 j, .int .i64 k, .pointer (some ⟨ga, 0, none⟩), u16, u17, u18, u19, u20, u21, u22, t23, t24, t25, t26, t27, t28, t29, t30, t31, t32, t33, t34, t35, t36, t37, t38, t39, t40, t41, t42, t43, t44, t45, t46, t47, u48, u49, u50, u51, u52, u53, u54, u55, u56, u57, u58, u59, u60, u61, u62, u63, u64, u65, .int .i64 m5, u67, u68, u69, u70, u71, u72, u73, u74, u75, u76, u77, u78, u79, u80, u81, u82, u83, u84, u85, u86, u87, u88, u89, u90, u91, u92, u93, u94, u95, u96, u97, u98, u99, u100, u101, u102, u103, u104, u105, u106, u107, u108, u109, u110, u111, u112, u113, u114, u115, u116, u117, u118, u119, u120, u121, u122, u123, u124, u125, u126, u127, u128, u129, u130, u131, u132, u133, u134, u135, u136, u137, u138, u139, u140, u141, u142, u143, u144, u145, u146, u147, u148, u149, u150, u151, u152, u153, u154, u155, u156, u157, u158, u159, u160, u161, u162, u163, u164, u165, u166, u167, u168, u169, u170, u171, u172, u173, u174, u175, u176, u177, u178, u179, u180, u181, u182, u183, u184, u185, u186, u187, u188, u189, u190, u191, u192, u193, u194, u195, u196, u197, u198, u199, u200, u201, u202, u203, u204, u205, u206, u207, u208, u209, u210, u211, u212, u213, u214, u215, u216, u217, u218, u219, u220, u221, u222, u223, u224, u225, u226, u227, u228, u229, u230, u231, u232, u233, u234, u235, u236, u237, u238, u239, u240, u241, u242, u243, u244, u245, u246, u247, u248, u249, u250, u251, u252, u253, u254, u255, u256, u257, u258], []⟩ w8 := by
  subst hcd
  subst hmm
  conv => arg 2; whnf
  obtain ⟨A2, c2, A3, c3, B2, d2, Ks2, Os2, h2⟩ := hP2.out
  obtain ⟨e0, e1, e2, e3, e4, e5, e6⟩ := h2.seven hk1
  have hrd := h2.rdk k
  have hW := waitK hfk (by omega) (by omega) hk1
  have HJ := Lib.hid ((inv_sel hk1 HI.out).wait)
  have H2 := Lib.hid h2
  have HRS := Lib.hid (fun (z : SS) (h : MonoQ (sel k x y) z) => (mono_back h : MonoQ x (pu0 k x z) ∧ MonoQ y (pu1 k y z)))
  generalize sel k x y = S at *
  generalize sel k A2 A3 = A at *
  generalize sel k c2 c3 = c at *
  generalize waitQ p S = Z at *
  obtain ⟨act, term, cyc, sil⟩ := S
  obtain ⟨za, zt, zc, zs⟩ := Z
  have HRD := Lib.hid hrd
  have HWT : Hid (waitedF [] (⟨k, act, term, cyc, sm cyc, sil, p⟩ : SD (List Int)) 2 = ((⟨k, za, zt, zc, sm zc, zs, p⟩ : SD (List Int)), 0)) := hW
  have k0 : (0 : Int) ≤ (k : Int) := by omega
  have k2 : (k : Int) < 2 := by omega
  clear h2 hrd hW hfk hP2
  go_wp2_with fail
  refine (Wait_any k act term cyc A 2 c sil p (sm cyc) _ HRD.out (by omega)).mono ?_
  intro e w9 hf9
  rw [HWT.out] at hf9
  obtain ⟨A4, c4, rfl, ho, hb⟩ := hf9
  have hs2 : (sm zc).length = 2 := rfl
  simp only [SD.val, SD.set, hs2] at ho ⊢
  have M9 := Lib.hid ((H2.out.mem.made hb ho).alloc 25 #[.int .i64 k, .bool za, .int .i64 zt, .int .i64 zc, .slice A4 2 c4, .int .i64 zs, .int .i64 p])
  have hs9 : Hid (PW w1 (w9.alloc (.cells #[.int .i64 k, .bool za, .int .i64 zt, .int .i64 zc, .slice A4 2 c4, .int .i64 zs, .int .i64 p] 25)) gs gt p x y L [⟨ga, 46, sidesC x y p V0 V1⟩] A2 c2 A3 c3 B2 d2 (⟨w9.heap.size, 25, #[.int .i64 k, .bool za, .int .i64 zt, .int .i64 zc, .slice A4 2 c4, .int .i64 zs, .int .i64 p]⟩ :: Ks2) (imgR A4 c4 zc :: Os2)) :=
    ⟨(mem_sink M9.out).upO 1 rfl, List.mem_cons_of_mem _ H2.out.i0, List.mem_cons_of_mem _ H2.out.i1, fun i hi => List.mem_cons_of_mem _ (H2.out.im i hi), fun b hb => List.mem_cons_of_mem _ (H2.out.kx b hb)⟩
  clear ho hb M9 e0 e1 e2 e3 e4 e5 e6 H2
  have x0 := hs9.out.mem.cellK 2 rfl
  obtain ⟨e0, e1, e2, e3, e4, e5, e6⟩ := hs9.out.seven hk1
  have fz := hs9.out.mem.frozenK 0 rfl
  go_wp2
  go_meet
  refine ⟨_, _, L, inv_back hk1 HJ.out.1, by omega, HRS.out ⟨za, zt, zc, zs⟩ HJ.out.2, ?_⟩
  exact (hs9.out.putS hk1 ⟨za, zt, zc, zs⟩ A4 c4 (List.mem_cons_self ..)).e
end Go.Proofs.Ytlccpnloankloaa.Pair
