/-
  The walk of the law BusFresh: a frame is sent. Conditions: the state ahead of it.
-/
import Derived.Test.YtdncdmibmopilaaFshB
import Derived.Deep.RegionWith
import Derived.Deep.DeepCutAuto
namespace Go.Proofs.Ytdncdmibmopilaa.Bus
open Go.RowKit Go.Proofs.Ytdncdmibmopilaa.W Go.Proofs.Ytdncdmibmopilaa.Ints Go.Proofs.Ytdncdmibmopilaa.Byt Go.Proofs.Ytdncdmibmopilaa.Num Go.Proofs.Ytdncdmibmopilaa.Keep

set_option maxRecDepth 100000 in
set_option maxHeartbeats 100000000 in
theorem leafS (w wx : World) (n c k b o gL g2 : Nat) (V : Int) (ph zz : Int) (SA : Option Addr) (ns sc : Nat) (nw qt sq ag : Int) (A4 : Option Addr) (c4 : Nat) (B4 : Option Addr) (d4 : Nat) (fs : List (Option Addr × Nat))
    (t0 t2 t3 t8 t23 t24 t25 t26 t27 t28 t29 t30 t31 t32 t33 t34 t35 t36 t37 t38 t39 t40 t41 t42 t43 t44 t45 : Value) (u4 u13 u14 u15 u16 u17 u18 u19 u20 u21 u22 u46 u47 u48 u49 u50 u51 u52 u53 u54 u55 u56 u58 u59 u60 u61 u62 u63 u64 u65 u66 u67 u68 u69 u70 u71 u72 u73 u74 u75 u76 u77 u78 u79 u80 u81 u82 u83 u84 u85 u86 u87 u88 u89 u90 u91 u92 u93 u94 u95 u96 u97 u98 u99 u100 u101 u102 u103 u104 u105 u106 u107 u108 u109 u110 u111 u112 u113 u114 u115 u116 u117 u118 u119 u120 u121 u122 u123 u124 u125 u126 u127 u128 u129 u130 u131 u132 u133 u134 u135 u136 u137 u138 u139 u140 u141 u142 u143 u144 u145 u146 u147 u148 u149 u150 u151 u152 u153 u154 u155 u156 u157 u158 u159 u160 u161 u162 u163 u164 u165 u166 u167 u168 : Value) (j0 : TypeInfo) (hj0 : Try.prog.info? 31 = some j0) (hy0 : j0.zero = some (Value.slice none 0 0)) (hy1 : j0.size = 1) (hy2 : j0.bytes = 24)
    (h400 : ¬ 400 < n) (_hwv : 0 ≤ V ∧ V < 6) (hgw : w.heap.size ≤ gL) (_hk : k ≤ n) (hns : ns ≤ k) (hnw1 : -1 ≤ nw) (hnw2 : nw < (ns : Int)) (hqt1 : 0 ≤ qt) (hqt2 : qt ≤ (k : Int)) (_hsc : ns ≤ sc) (HST : Hid (stands (1 + V) nw sq ag qt)) (HFL : Hid (fs.length = ns)) (hlt : k < n)
    (_ho3 : -9223372036854775808 ≤ ph) (_ho4 : ph ≤ 9223372036854775807)
    (KL : Hid (Blk wx gL 24 (linkC 5 (1 + V) (.slice A4 2 c4) (.slice B4 2 d4) sq ag (decide (0 ≤ nw))))) (RA : Hid (Rn wx gL (Value.slice SA ns sc).ownBlock A4 2 (ints [0, 65535]))) (RB : Hid (Rn wx gL (Value.slice SA ns sc).ownBlock B4 2 (ints (wd nw))))
    (RS : Hid (Rn wx gL (Value.slice SA ns sc).ownBlock (some ⟨g2, 0, none⟩) 2 (ints [0, 65535]))) (OS : Hid (wx.ownsRow (gL + 1) 31 1 (.slice SA ns sc) ns (sentV fs))) (HSE : Hid (Sent wx gL (Value.slice SA ns sc).ownBlock fs)) (BW : Hid (Below w.heap.size w wx)) (zw : gL < wx.heap.size) (zb : w.heap.size ≤ wx.heap.size)
    (_h2 : wx.cell? ⟨b, o + k * 3 + 1, none⟩ = some (.int .i64 ph)) (hzz : zz = 0)
    (P0 : Ending → World → Prop) (K0 KC K1 J K' : Act → World → Prop) (cd : Code) (hcd : code2 = cd)
    (hJ : ∀ (a' : Act) (w' : World), (∃ u4 u9 u10 u11 u13 u14 u15 u16 u17 u18 u19 u20 u21 u22 u46 u47 u48 u49 u50 u51 u52 u53 u54 u55 u56 u57 u58 u59 u60 u61 u62 u63 u64 u65 u66 u67 u68 u69 u70 u71 u72 u73 u74 u75 u76 u77 u78 u79 u80 u81 u82 u83 u84 u85 u86 u87 u88 u89 u90 u91 u92 u93 u94 u95 u96 u97 u98 u99 u100 u101 u102 u103 u104 u105 u106 u107 u108 u109 u110 u111 u112 u113 u114 u115 u116 u117 u118 u119 u120 u121 u122 u123 u124 u125 u126 u127 u128 u129 u130 u131 u132 u133 u134 u135 u136 u137 u138 u139 u140 u141 u142 u143 u144 u145 u146 u147 u148 u149 u150 u151 u152 u153 u154 u155 u156 u157 u158 u159 u160 u161 u162 u163 u164 u165 u166 u167 u168 : Value, FRel w gL g2 V (k + 1) u9 u10 u11 w' ∧ a' = ⟨#[t0, .slice (some ⟨b, o, none⟩) n c, t2, t3, u4, .int .i64 (1 + V), .slice (some ⟨g2, 0, none⟩) 2 2, .pointer (some ⟨gL, 0, none⟩), t8, u9, u10, u11, .int .i64 k, u13, u14, u15, u16, u17, u18, u19, u20, u21, u22, t23, t24, t25, t26, t27, t28, t29, t30, t31, t32, t33, t34, t35, t36, t37, t38, t39, t40, t41, t42, t43, t44, t45, u46, u47, u48, u49, u50, u51, u52, u53, u54, u55, u56, u57, u58, u59, u60, u61, u62, u63, u64, u65, u66, u67, u68, u69, u70, u71, u72, u73, u74, u75, u76, u77, u78, u79, u80, u81, u82, u83, u84, u85, u86, u87, u88, u89, u90, u91, u92, u93, u94, u95, u96, u97, u98, u99, u100, u101, u102, u103, u104, u105, u106, u107, u108, u109, u110, u111, u112, u113, u114, u115, u116, u117, u118, u119, u120, u121, u122, u123, u124, u125, u126, u127, u128, u129, u130, u131, u132, u133, u134, u135, u136, u137, u138, u139, u140, u141, u142, u143, u144, u145, u146, u147, u148, u149, u150, u151, u152, u153, u154, u155, u156, u157, u158, u159, u160, u161, u162, u163, u164, u165, u166, u167, u168], []⟩) → J a' w') (hM : ∀ (a' : Act) (w' : World), Met J a' w' → K' a' w') :
    cd.wp Try.prog (Exit.then K' (Exit.inBlock 1 (Exit.then K1 (Exit.then KC (Exit.inBlock 0 (Exit.then K0 (bodyPost Try.prog Try.f8 P0))))))) ⟨#[t0, .slice (some ⟨b, o, none⟩) n c, t2, t3, u4, .int .i64 (1 + V), .slice (some ⟨g2, 0, none⟩) 2 2, .pointer (some ⟨gL, 0, none⟩), t8, .slice SA ns sc, .int .i64 nw, .int .i64 qt, .int .i64 k, u13, u14, u15, u16, u17, u18, u19, u20, u21, u22, t23, t24, t25, t26, t27, t28, t29, t30, t31, t32, t33, t34, t35, t36, t37, t38, t39, t40, t41, t42, t43, t44, t45, u46, u47, u48, u49, u50, u51, u52, u53, u54, u55, u56, .int .i64 zz, u58, u59, u60, u61, u62, u63, u64, u65, u66, u67, u68, u69, u70, u71, u72, u73, u74, u75, u76, u77, u78, u79, u80, u81, u82, u83, u84, u85, u86, u87, u88, u89, u90, u91, u92, u93, u94, u95, u96, u97, u98, u99, u100, u101, u102, u103, u104, u105, u106, u107, u108, u109, u110, u111, u112, u113, u114, u115, u116, u117, u118, u119, u120, u121, u122, u123, u124, u125, u126, u127, u128, u129, u130, u131, u132, u133, u134, u135, u136, u137, u138, u139, u140, u141, u142, u143, u144, u145, u146, u147, u148, u149, u150, u151, u152, u153, u154, u155, u156, u157, u158, u159, u160, u161, u162, u163, u164, u165, u166, u167, u168], []⟩ wx := by
  subst hcd
  subst hzz
  conv => arg 2; whnf
  have KL1 := KL
  have RB1 := RB
  clear KL RB
  go_wp2_with fail
  refine (Frame_any 5 ((ns : Int) % 256) _ 2 _ [(ns : Int), 1000 - (ns : Int)] _ (rd_two wx 3 (ns : Int) (1000 - (ns : Int))) (by omega)).mono ?_
  intro e wf hf
  rw [fr_framed (by omega)] at hf
  obtain ⟨Af, cf, rfl, of, hbf⟩ := hf
  simp only [fr_len, World.size_alloc] at of ⊢
  have nf := (below_alloc (.cells #[.int .i64 (ns : Int), .int .i64 (1000 - (ns : Int))] 3)).trans (hbf.mono (by simp))
  have zf := hbf.size
  simp only [World.size_alloc] at zf
  obtain ⟨hcf1, hcf2, rgf⟩ := own_range of
  have hsl : ∀ x, (Value.slice SA ns sc).ownBlock = some x → gL + 1 ≤ x ∧ x < wx.heap.size := fun x hx => OS.out.lt _ hx
  have KF := Lib.hid ((KL1.out.below nf).alloc (.cells #[.slice Af 9 cf] 31))
  have RAF := Lib.hid ((RA.out.below nf).alloc (.cells #[.slice Af 9 cf] 31))
  have RBF := Lib.hid ((RB1.out.below nf).alloc (.cells #[.slice Af 9 cf] 31))
  have RSF := Lib.hid ((RS.out.below nf).alloc (.cells #[.slice Af 9 cf] 31))
  have SEF := Lib.hid ((HSE.out.below nf).alloc (.cells #[.slice Af 9 cf] 31))
  have hO := own_below (own_below OS.out nf) (below_alloc (.cells #[.slice Af 9 cf] 31))
  have BWF := Lib.hid ((BW.out.trans (nf.mono zb)).alloc (show w.heap.size ≤ wf.heap.size by omega) (.cells #[.slice Af 9 cf] 31))
  have NF : Hid (Rn (wf.alloc (.cells #[.slice Af 9 cf] 31)) gL (Value.slice SA ns sc).ownBlock Af 9 (byts (frB fs.length))) := by
    rw [HFL.out]
    exact Rn.new (m := wx.heap.size + 1) ((Rd.own of).alloc _) (fun a ha => (rgf a ha).1) (by omega) (fun x hx => by have := (hsl x hx).2; omega)
  clear of hbf nf rgf
  go_wp2_with (at_builtin; refine wpList_append_rd _ rfl (.tmp 74) (.tmp 76) 51 rfl (gL + 1) 31 j0 _ 1 24 Try.underlying51 hj0 hy0 hy1 hy2 rfl (by omega) (.slice SA ns sc) ns (sentV fs) rfl hO _ 1 1 [.slice Af 9 cf] rfl (rd_new _ _ _) ?_ ?_ ?_ ?_ ?_)
  · simp [Value.oneCell']
  · unfold maxLen; omega
  · omega
  · simp; omega
  intro v5 w5 o5 g5 at5
  obtain ⟨SA5, sc5, rfl, hsc5, _, _, _⟩ := own_shape o5
  have at5' : (Value.slice SA5 (ns + 1) sc5).ownBlock = (Value.slice SA ns sc).ownBlock ∨ (Value.slice SA5 (ns + 1) sc5).ownBlock = some (wf.alloc (.cells #[.slice Af 9 cf] 31)).heap.size := by rw [World.size_alloc]; exact at5
  have z5 := g5.size
  simp only [World.size_alloc] at z5
  have K5 := Lib.hid (KF.out.grown g5 (fun e => by have := hsl gL e.symm; omega))
  have RA5 := Lib.hid (RAF.out.row (by omega) g5 at5')
  have RB5 := Lib.hid (RBF.out.row (by omega) g5 at5')
  have RS5 := Lib.hid (RSF.out.row (by omega) g5 at5')
  have E5 := Lib.hid ((SEF.out.row g5 at5').push (p := (Af, cf)) (NF.out.row (by omega) g5 at5') hcf1 hcf2)
  have O5 : Hid (w5.ownsRow (gL + 1) 31 1 (.slice SA5 (ns + 1) sc5) (ns + 1) (sentV (fs ++ [(Af, cf)]))) := by
    have e : sentV (fs ++ [(Af, cf)]) = sentV fs ++ [.slice Af 9 cf] := by simp [sentV]
    rw [e]
    exact o5
  have F5 : Hid ((fs ++ [(Af, cf)]).length = ns + 1) := by show _ = _; rw [List.length_append, HFL.out]; rfl
  have BW5 := Lib.hid (BWF.out.trans (Grow.below g5 (by simp; omega) (fun x hx => by have := hsl x hx; omega)))
  have zz5 : gL < w5.heap.size := by omega
  have d5 := K5.out.cell
  have e5 := K5.out.frozen
  clear o5 g5 at5 at5' hO KF RAF RBF RSF SEF NF BWF KL1 RA RB1 RS HSE OS hsl BW HFL
  go_wp2
  go_meet
  exact ⟨ SA5, (ns + 1), sc5, nw, qt, sq, ag, A4, c4, B4, d4, (fs ++ [(Af, cf)]), rfl, rfl, rfl, by omega, HST, K5.out, RA5.out, RB5.out, RS5.out, O5.out, F5, E5.out, BW5.out, zz5⟩
end Go.Proofs.Ytdncdmibmopilaa.Bus
