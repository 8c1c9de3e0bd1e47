/-
  The walk of the law PairOne: arm 2 of the round's switch. Conditions: the state ahead of it.
-/
import Derived.Test.YtlccpnloankloaaOneB
namespace Go.Proofs.Ytlccpnloankloaa.Pair
open Go.RowKit Go.Proofs.Ytlccpnloankloaa.W Go.Proofs.Ytlccpnloankloaa.Ints Go.Proofs.Ytlccpnloankloaa.Keep

set_option maxRecDepth 100000 in
set_option maxHeartbeats 64000000 in
theorem arm2 (n c : Nat) (l : List RB) (p : Int) (w1 : World) (gs gt ga j k m5 : Nat) (x y : SS) (L : List BI) (br bo : Nat) (r : RB) (w8 : World) (V0 V1 : Value)
    (t0 t2 t3 t5 t7 t8 t9 t23 t24 t25 t26 t27 t28 t29 t30 t31 t32 t33 t34 t35 t36 t37 t38 t39 t40 t41 t42 t43 t44 t45 t46 t47 : Value) (u4 u16 u17 u18 u19 u20 u21 u22 u48 u49 u50 u51 u52 u53 u54 u55 u56 u57 u58 u59 u60 u61 u62 u63 u64 u65 u67 u68 u69 u70 u71 u72 u73 u74 u75 u76 u77 u78 u79 u80 u81 u82 u83 u84 u85 u86 u87 u88 u89 u90 u91 u92 u93 u94 u95 u96 u97 u98 u99 u100 u101 u102 u103 u104 u105 u106 u107 u108 u109 u110 u111 u112 u113 u114 u115 u116 u117 u118 u119 u120 u121 u122 u123 u124 u125 u126 u127 u128 u129 u130 u131 u132 u133 u134 u135 u136 u137 u138 u139 u140 u141 u142 u143 u144 u145 u146 u147 u148 u149 u150 u151 u152 u153 u154 u155 u156 u157 u158 u159 u160 u161 u162 u163 u164 u165 u166 u167 u168 u169 u170 u171 u172 u173 u174 u175 u176 u177 u178 u179 u180 u181 u182 u183 u184 u185 u186 u187 u188 u189 u190 u191 u192 u193 u194 u195 u196 u197 u198 u199 u200 u201 u202 u203 u204 u205 u206 u207 u208 u209 u210 u211 u212 u213 u214 u215 u216 u217 u218 u219 u220 u221 u222 u223 u224 u225 u226 u227 u228 u229 u230 u231 u232 u233 u234 u235 u236 u237 u238 u239 u240 u241 u242 u243 u244 u245 u246 u247 u248 u249 u250 u251 u252 u253 u254 u255 u256 u257 u258 : Value) (hg : (n : Int) ≤ 400) (hp1 : 1 ≤ p) (hp4 : p ≤ 4) (_hj : j ≤ n) (HI : Hid (Inv p j 0 x y (L.map BI.b))) (hL : L.length ≤ 2 * j) (hjn : j < n)
    (HR : Hid (Rd w1 3 (some ⟨br, bo, none⟩) n (rbV l))) (re : -9223372036854775808 ≤ r.which) (rf : r.which ≤ 9223372036854775807) (hj0 : (0 : Int) ≤ (j : Int)) (hj1 : (j : Int) < (n : Int)) (hk1 : k ≤ 1)
    (HRK : Hid (l[j]? = some r)) (_r2 : w8.cell? ⟨br, bo + j * 3 + 2, none⟩ = some (.int .i64 r.which)) (_hbr : br < ga) (hP2 : Hid (PWE w1 w8 gs gt p x y L [⟨ga, 46, sidesC x y p V0 V1⟩])) (hfk : Fit p j (sel k x y))
    (hmm : m5 = 2) (Q0 : Exit → Act → World → Prop) (K1 J K' : Act → World → Prop) (cd : Code) (hcd : code4 = cd)
    (hJ : ∀ (a' : Act) (w' : World), (∃ u4 u16 u17 u18 u19 u20 u21 u22 u48 u49 u50 u51 u52 u53 u54 u55 u56 u57 u58 u59 u60 u61 u62 u63 u64 u65 u66 u67 u68 u69 u70 u71 u72 u73 u74 u75 u76 u77 u78 u79 u80 u81 u82 u83 u84 u85 u86 u87 u88 u89 u90 u91 u92 u93 u94 u95 u96 u97 u98 u99 u100 u101 u102 u103 u104 u105 u106 u107 u108 u109 u110 u111 u112 u113 u114 u115 u116 u117 u118 u119 u120 u121 u122 u123 u124 u125 u126 u127 u128 u129 u130 u131 u132 u133 u134 u135 u136 u137 u138 u139 u140 u141 u142 u143 u144 u145 u146 u147 u148 u149 u150 u151 u152 u153 u154 u155 u156 u157 u158 u159 u160 u161 u162 u163 u164 u165 u166 u167 u168 u169 u170 u171 u172 u173 u174 u175 u176 u177 u178 u179 u180 u181 u182 u183 u184 u185 u186 u187 u188 u189 u190 u191 u192 u193 u194 u195 u196 u197 u198 u199 u200 u201 u202 u203 u204 u205 u206 u207 u208 u209 u210 u211 u212 u213 u214 u215 u216 u217 u218 u219 u220 u221 u222 u223 u224 u225 u226 u227 u228 u229 u230 u231 u232 u233 u234 u235 u236 u237 u238 u239 u240 u241 u242 u243 u244 u245 u246 u247 u248 u249 u250 u251 u252 u253 u254 u255 u256 u257 u258 : Value, (∃ x' y' L', Hid (Inv p (j + 1) 0 x' y' (List.map BI.b L')) ∧ L'.length ≤ 2 * (j + 1) ∧ Hid (MonoQ x x' ∧ MonoQ y y') ∧ Hid (PWE w1 w' gs gt p x' y' L' [⟨ga, 46, sidesC x y p V0 V1⟩])) ∧ a' = ⟨#[t0, .slice (some ⟨br, bo, none⟩) n c, t2, t3, u4, t5, .pointer (some ⟨gs, 0, none⟩), t7, t8, t9, .pointer (some ⟨gt, 0, none⟩), .func (Fn.func 30) #[] #[.pointer (some ⟨gs, 0, none⟩), .pointer (some ⟨gt, 0, none⟩)], .func (Fn.func 31) #[] #[.pointer (some ⟨gs, 0, none⟩)], .int .i64 j, .int .i64 k, .pointer (some ⟨ga, 0, none⟩), u16, u17, u18, u19, u20, u21, u22, t23, t24, t25, t26, t27, t28, t29, t30, t31, t32, t33, t34, t35, t36, t37, t38, t39, t40, t41, t42, t43, t44, t45, t46, t47, u48, u49, u50, u51, u52, u53, u54, u55, u56, u57, u58, u59, u60, u61, u62, u63, u64, u65, u66, u67, u68, u69, u70, u71, u72, u73, u74, u75, u76, u77, u78, u79, u80, u81, u82, u83, u84, u85, u86, u87, u88, u89, u90, u91, u92, u93, u94, u95, u96, u97, u98, u99, u100, u101, u102, u103, u104, u105, u106, u107, u108, u109, u110, u111, u112, u113, u114, u115, u116, u117, u118, u119, u120, u121, u122, u123, u124, u125, u126, u127, u128, u129, u130, u131, u132, u133, u134, u135, u136, u137, u138, u139, u140, u141, u142, u143, u144, u145, u146, u147, u148, u149, u150, u151, u152, u153, u154, u155, u156, u157, u158, u159, u160, u161, u162, u163, u164, u165, u166, u167, u168, u169, u170, u171, u172, u173, u174, u175, u176, u177, u178, u179, u180, u181, u182, u183, u184, u185, u186, u187, u188, u189, u190, u191, u192, u193, u194, u195, u196, u197, u198, u199, u200, u201, u202, u203, u204, u205, u206, u207, u208, u209, u210, u211, u212, u213, u214, u215, u216, u217, u218, u219, u220, u221, u222, u223, u224, u225, u226, u227, u228, u229, u230, u231, u232, u233, u234, u235, u236, u237, u238, u239, u240, u241, u242, u243, u244, u245, u246, u247, u248, u249, u250, u251, u252, u253, u254, u255, u256, u257, u258], []⟩) → J a' w') (hM : ∀ (a' : Act) (w' : World), Met J a' w' → K' a' w') :
    cd.wp Try.prog (Exit.then K' (Exit.inBlock 3 (Exit.then K1 Q0))) ⟨#[t0, .slice (some ⟨br, bo, none⟩) n c, t2, t3, u4, t5, .pointer (some ⟨gs, 0, none⟩), t7, t8, t9, .pointer (some ⟨gt, 0, none⟩), .func (Fn.func 30) #[] #[.pointer (some ⟨gs, 0, none⟩), .pointer (some ⟨gt, 0, none⟩)], .func (Fn.func 31) #[] #[.pointer (some ⟨gs, 0, none⟩)], .int .i64 j, .int .i64 k, .pointer (some ⟨ga, 0, none⟩), u16, u17, u18, u19, u20, u21, u22, t23, t24, t25, t26, t27, t28, t29, t30, t31, t32, t33, t34, t35, t36, t37, t38, t39, t40, t41, t42, t43, t44, t45, t46, t47, u48, u49, u50, u51, u52, u53, u54, u55, u56, u57, u58, u59, u60, u61, u62, u63, u64, u65, .int .i64 m5, u67, u68, u69, u70, u71, u72, u73, u74, u75, u76, u77, u78, u79, u80, u81, u82, u83, u84, u85, u86, u87, u88, u89, u90, u91, u92, u93, u94, u95, u96, u97, u98, u99, u100, u101, u102, u103, u104, u105, u106, u107, u108, u109, u110, u111, u112, u113, u114, u115, u116, u117, u118, u119, u120, u121, u122, u123, u124, u125, u126, u127, u128, u129, u130, u131, u132, u133, u134, u135, u136, u137, u138, u139, u140, u141, u142, u143, u144, u145, u146, u147, u148, u149, u150, u151, u152, u153, u154, u155, u156, u157, u158, u159, u160, u161, u162, u163, u164, u165, u166, u167, u168, u169, u170, u171, u172, u173, u174, u175, u176, u177, u178, u179, u180, u181, u182, u183, u184, u185, u186, u187, u188, u189, u190, u191, u192, u193, u194, u195, u196, u197, u198, u199, u200, u201, u202, u203, u204, u205, u206, u207, u208, u209, u210, u211, u212, u213, u214, u215, u216, u217, u218, u219, u220, u221, u222, u223, u224, u225, u226, u227, u228, u229, u230, u231, u232, u233, u234, u235, u236, u237, u238, u239, u240, u241, u242, u243, u244, u245, u246, u247, u248, u249, u250, u251, u252, u253, u254, u255, u256, u257, u258], []⟩ w8 := by
  subst hcd
  subst hmm
  conv => arg 2; whnf
  obtain ⟨A2, c2, A3, c3, B2, d2, Ks2, Os2, h2⟩ := hP2.out
  have gtc : w8.cell? ⟨gt, 0, none⟩ = some (.slice B2 L.length d2) := h2.mem.cellK 1 rfl 0
  obtain ⟨N, hN⟩ : ∃ N, L.length = N := ⟨_, rfl⟩
  rw [hN] at gtc
  have k0 : (0 : Int) ≤ (k : Int) := by omega
  have k2 : (k : Int) < 2 := by omega
  by_cases hN0 : N = 0
  · have g0 : decide ((0 : Int) < (N : Int)) = false := decide_eq_false (by omega)
    have g1 : decide (0 < N) = false := decide_eq_false (by omega)
    have HPD := Lib.hid (fun q => hP2.out.bel (below_drewN (Below.refl _ _) q : Below w8.heap.size w8 (w8.drewN q)))
    clear h2
    go_upto_region 32 with fail
    go_quiet (fail)
    go_wp2
    go_meet
    exact ⟨x, y, L, HI.out.up (by omega), by omega, ⟨MonoQ.refl x, MonoQ.refl y⟩, HPD.out _⟩
  · obtain ⟨bb, hbb, _, _⟩ := h2.mem.head (by omega)
    subst hbb
    have hvb := pick_lt (n := r.which) (m := (N : Int)) (by omega)
    generalize hVv : pickN r.which N = vv at hvb
    obtain ⟨v, rfl⟩ := Int.eq_ofNat_of_zero_le hvb.1
    have HVv := Lib.hid hVv
    have hvN : v < N := by omega
    clear hVv hvb
    obtain ⟨ix, hix⟩ : ∃ ix, N - 1 - v = ix := ⟨_, rfl⟩
    have hixN : ix < N := by omega
    have hit : L[ix]? = some L[ix] := List.getElem?_eq_getElem (by omega)
    have hmem : L[ix] ∈ L := List.mem_of_getElem? hit
    obtain ⟨it, hite⟩ : ∃ it, L[ix] = it := ⟨_, rfl⟩
    rw [hite] at hit hmem
    clear hite
    have hbs := HI.out.bs it.b (List.mem_map_of_mem hmem)
    have HHE := Lib.hid ((inv_sel hk1 HI.out).hear (List.mem_map_of_mem hmem))
    have HRS := Lib.hid (fun (z : SS) (h : MonoQ (sel k x y) z) => (mono_back h : MonoQ x (pu0 k x z) ∧ MonoQ y (pu1 k y z)))
    have HPB : Hid (PWB w1 w8.drew gs gt p x y L [⟨ga, 46, sidesC x y p V0 V1⟩] (some ⟨bb, 0, none⟩) d2) := ⟨A2, c2, A3, c3, Ks2, Os2, h2.mem.drew, h2.i0, h2.i1, h2.im, h2.kx⟩
    have HALL : Hid (∀ (w' : World) (x' y' : SS), PWB w1 w' gs gt p x' y' L [⟨ga, 46, sidesC x y p V0 V1⟩] (some ⟨bb, 0, none⟩) d2 → w'.cell? ⟨gt, 0, none⟩ = some (.slice (some ⟨bb, 0, none⟩) N d2) ∧ w'.cell? ⟨br, bo + j * 3 + 2, none⟩ = some (.int .i64 r.which) ∧
        w'.cell? ⟨bb, ix * 4, none⟩ = some (.int .i64 it.b.frm) ∧ w'.cell? ⟨bb, ix * 4 + 1, none⟩ = some (.int .i64 it.b.term) ∧ w'.cell? ⟨bb, ix * 4 + 2, none⟩ = some (.int .i64 it.b.cyc) ∧ w'.cell? ⟨bb, ix * 4 + 3, none⟩ = some (.slice it.A 2 it.c)) := by
      rintro w' x' y' ⟨_, _, _, _, _, _, h⟩
      have hg := h.mem.cellK 1 rfl 0
      rw [hN] at hg
      exact ⟨hg, (rb_same (HR.out.below h.mem.bel) hjn HRK.out).2.2, h.beat hit⟩
    have hq0 := HALL.out _ _ _ HPB.out
    have HHR : Hid (∀ w', PWB w1 w' gs gt p x y L [⟨ga, 46, sidesC x y p V0 V1⟩] (some ⟨bb, 0, none⟩) d2 → Calls Try.prog 31 #[.int .i64 k, beatV it.b.frm it.b.term it.b.cyc (.slice it.A 2 it.c), .pointer (some ⟨gs, 0, none⟩)] w' fun e w'' => e = .returned (.bool true) ∧
        PWB w1 w'' gs gt p (pu0 k x (hearQ k (sel k x y) it.b)) (pu1 k y (hearQ k (sel k x y) it.b)) L [⟨ga, 46, sidesC x y p V0 V1⟩] (some ⟨bb, 0, none⟩) d2) :=
      fun w' h => hear_any w1 w' gs gt p j k x y L _ _ _ h hk1 hfk (by omega) (by omega) it hmem hbs
    obtain ⟨⟨bf, bt, bc⟩, Ai, ci⟩ := it
    simp only at hq0
    have g0 : decide ((0 : Int) < (N : Int)) = true := decide_eq_true (by omega)
    have hw1 : IntKind.i64.wrap ((N : Int) - 1) = (N : Int) - 1 := by simp [IntKind.wrap, IntKind.bits, IntKind.signed]; omega
    have hw2 : IntKind.i64.wrap ((N : Int) - 1 - (v : Int)) = (ix : Int) := by simp [IntKind.wrap, IntKind.bits, IntKind.signed]; omega
    have i0 : (0 : Int) ≤ (ix : Int) := by omega
    have i1 : (ix : Int) < (N : Int) := by omega
    have n0 : (0 : Int) < (N : Int) := by omega
    have n2 : 0 < N := by omega
    have n3 : decide (0 < N) = true := decide_eq_true n2
    have n1 : (N : Int) ≤ 9223372036854775807 := by omega
    clear h2 hit hmem hbs hfk hP2 _r2 hix hvN hixN hN0
    go_upto_region 32 with fail
    go_region_held3 (fun w' => w'.cell? ⟨gt, 0, none⟩ = some (.slice (some ⟨bb, 0, none⟩) N d2) ∧ w'.cell? ⟨br, bo + j * 3 + 2, none⟩ = some (.int .i64 r.which) ∧
        w'.cell? ⟨bb, ix * 4, none⟩ = some (.int .i64 bf) ∧ w'.cell? ⟨bb, ix * 4 + 1, none⟩ = some (.int .i64 bt) ∧ w'.cell? ⟨bb, ix * 4 + 2, none⟩ = some (.int .i64 bc) ∧ w'.cell? ⟨bb, ix * 4 + 3, none⟩ = some (.slice Ai 2 ci))
      (first | with_reducible exact hq0 | with_reducible exact y1 | fail)
      (first
        | (go_at_call 28
           refine (picked_any r.which (N : Int) _ re rf n0 n1).mono ?_
           rintro e w9 ⟨rfl, rfl⟩
           try dsimp only
           rw [HVv.out])
        | (go_at_call 31
           refine (HHR.out _ HPB.out).mono ?_
           rintro e w9 ⟨rfl, hp9⟩
           try dsimp only
           have HP9 := Lib.hid hp9
           have y1 := HALL.out _ _ _ hp9))
    go_wp2
    go_meet
    exact ⟨_, _, L, inv_back hk1 (HHE.out.1.up (by omega)), by omega, HRS.out _ HHE.out.2, HP9.out.e⟩
end Go.Proofs.Ytlccpnloankloaa.Pair
