/-
  The reference's Carried. Conditions: both procs and the frame read, within the reach.
-/
import Derived.Test.YtnalabohhocjaaaChg2
import Derived.Test.YtnalabohhocjaaaNum
import Derived.Test.YtnalabohhocjaaaCod2
import Derived.Test.YtnalabohhocjaaaHeld2
import Derived.Deep.RegionHeld3
import Derived.Handy
import Derived.BigRegion
namespace Go.Proofs.Ytnalabohhocjaaa.Chg
open Go.RowKit Go.Proofs.Ytnalabohhocjaaa.W Go.Proofs.Ytnalabohhocjaaa.Ints Go.Proofs.Ytnalabohhocjaaa.Cod

abbrev strs (l : List ByteArray) : List Value := l.map Value.string
theorem wrap_add {a b c : Nat} (h : a + b = c) (hc : c < 9223372036854775808) : IntKind.i64.wrap ((a : Int) + (b : Int)) = (c : Int) := by
  have e : (a : Int) + (b : Int) = (c : Int) := by omega
  rw [e]
  exact Num.wrap_i64_nat c hc
/-- what carrying over answers: its fault, its lists -/
structure CarD where
  err : Int
  frame : List Int
  lost : List ByteArray
  fresh : List ByteArray
def carriedF (po : PD) (frame : List Int) (pn : PD) : CarD :=
  if carrB po = false then ⟨12, [], [], []⟩ else if ¬ frame.length = po.first.length then ⟨4, [], [], []⟩ else if carrB pn = false then ⟨12, [], [], []⟩
  else ⟨0, carryF po.slots frame pn.first pn.slots, strangeF po.slots pn.slots, strangeF pn.slots po.slots⟩
/-- the answer, as memory -/
def CarR (w w' : World) (e : Ending) (d : CarD) : Prop := ∃ FA fc LA lc SA sc, e = .returned (.tuple #[.agg #[.slice FA d.frame.length fc, .slice LA d.lost.length lc, .slice SA d.fresh.length sc], .int .i64 d.err]) ∧
  Mem w w' [] [⟨3, 1, FA, d.frame.length, fc, ints d.frame⟩, ⟨9, 1, LA, d.lost.length, lc, strs d.lost⟩, ⟨9, 1, SA, d.fresh.length, sc, strs d.fresh⟩]
theorem CarR.none {w w' : World} {e : Ending} (k : Int) (h : e = .returned (.tuple #[.agg #[.slice none 0 0, .slice none 0 0, .slice none 0 0], .int .i64 k])) (hb : Below w.heap.size w w') : CarR w w' e ⟨k, [], [], []⟩ :=
  ⟨_, _, _, _, _, _, h, ((((Mem.start w).below hb).nilO _ _).nilO _ _).nilO _ _⟩
theorem strange_len (l m : List SL) : (strangeF l m).length ≤ l.length := by
  unfold strangeF
  rw [List.length_map]
  exact List.length_filter_le _ _
theorem knownI_neg (l : List SL) (s : SL) : decide (knownI l s < 0) = (knownF l s).isNone := by
  unfold knownI
  cases knownF l s with
  | none => rfl
  | some k => simp
theorem str_info : (Try.prog.info? 9).map (fun i => (i.zero, i.size, i.bytes)) = some (some (.string ByteArray.empty), 1, 16) := by kernel_rfl

set_option maxRecDepth 100000 in
set_option maxHeartbeats 12800000 in
theorem Carried_any (v u : PV) (po pn : PD) (A : Option Addr) (n c : Nat) (frame : List Int) (w : World) (hv : PRd w v po) (hu : PRd w u pn) (hov : po.ok) (hou : pn.ok) (hr : Rd w 1 A n (ints frame)) :
    Calls Try.prog 4 #[v.val, .slice A n c, u.val] w fun e w' => CarR w w' e (carriedF po frame pn) := by
  obtain ⟨i0, hi0, hz0, hz1, hz2⟩ := info_parts int_info
  obtain ⟨s0, hs0, hsz0, hsz1, hsz2⟩ := info_parts str_info
  have HC1 := Lib.hid (fun w hw => Carriable_any v po w hw hov)
  have HC2 := Lib.hid (fun w hw => Carriable_any u pn w hw hou)
  have HV := Lib.hid hv
  have HU := Lib.hid hu
  have HR := Lib.hid hr
  have HLN : Hid (frame.length = n) := rd_len hr
  have HQ := Lib.hid (And.intro hv.fl (And.intro hv.sl (And.intro hu.fl hu.sl)))
  have HO := Lib.hid (And.intro hov hou)
  obtain ⟨R, hR⟩ : ∃ R, carriedF po frame pn = R := ⟨_, rfl⟩
  rw [hR]
  have HRR := Lib.hid hR
  clear hv hu hov hou hr hR
  obtain ⟨vk, vname, fA, fn, fc, sA, sn, sc, tA, tn, tc⟩ := v
  obtain ⟨uk, uname, gA, gn, gc, hA, hn, hc, iA, inn, ic⟩ := u
  go_enter Try.func4, Try.ntmps4
  go_upto_region 1 with fail
  have M0 := Lib.hid ((((Mem.start w).alloc 27 #[.int .i64 vk, .string vname, .slice fA fn fc, .slice sA sn sc, .slice tA tn tc]).alloc 27 #[.int .i64 uk, .string uname, .slice gA gn gc, .slice hA hn hc, .slice iA inn ic]).alloc 30 #[.slice none 0 0, .slice none 0 0, .slice none 0 0])
  simp only [World.size_alloc] at M0
  generalize World.alloc (World.alloc _ _) _ = w1 at M0 ⊢
  generalize w.heap.size = gb at M0 ⊢
  have px := M0.out.cellK 2 rfl
  have qx := M0.out.cellK 1 rfl
  have p0 : w1.cell? ⟨gb, 0, none⟩ = some (.int .i64 vk) := px 0
  have p1 : w1.cell? ⟨gb, 1, none⟩ = some (.string vname) := px 1
  have p2 : w1.cell? ⟨gb, 2, none⟩ = some (.slice fA fn fc) := px 2
  have p3 : w1.cell? ⟨gb, 3, none⟩ = some (.slice sA sn sc) := px 3
  have p4 : w1.cell? ⟨gb, 4, none⟩ = some (.slice tA tn tc) := px 4
  clear px qx
  go_wp2_with fail
  refine (HC1.out w1 (HV.out.below M0.out.bel)).mono ?_
  rintro e w2 ⟨rfl, hb2⟩
  dsimp only
  have M2 := Lib.hid (M0.out.below hb2)
  clear M0 hb2 p0 p1 p2 p3 p4
  have p2 : w2.cell? ⟨gb, 2, none⟩ = some (.slice fA fn fc) := M2.out.cellK 2 rfl 2
  cases hc1 : carrB po
  · have HC := Lib.hid hc1
    clear hc1
    have eR : R = ⟨12, [], [], []⟩ := by rw [← HRR.out]; unfold carriedF; rw [if_pos HC.out]
    have MS := Lib.hid (M2.out)
    have bz := M2.out.cellK 0 rfl
    have fz := M2.out.frozenK 0 rfl
    have ME := Lib.hid (((M2.out.set (i := 0) (.slice none 0 0)).set (i := 1) (.slice none 0 0)).set (i := 2) (.slice none 0 0))
    clear M2
    go_wp2
    refine bodyPost_ret (v := .tuple #[.agg #[.slice none 0 0, .slice none 0 0, .slice none 0 0], .int .i64 12]) ?_ rfl ?_
    · simp [results, Try.results4, go_sem, ME.out.cellK 0 rfl 0, ME.out.cellK 0 rfl 1, ME.out.cellK 0 rfl 2]
    · rw [eR]
      exact CarR.none 12 rfl ME.out.bel

  · have HC := Lib.hid hc1
    clear hc1
    by_cases hnf : n = fn
    · have e1 : ((n : Int) != (fn : Int)) = false := by simp; omega
      have q0 : w2.cell? ⟨gb + 1, 0, none⟩ = some (.int .i64 uk) := M2.out.cellK 1 rfl 0
      have q1 : w2.cell? ⟨gb + 1, 1, none⟩ = some (.string uname) := M2.out.cellK 1 rfl 1
      have q2 : w2.cell? ⟨gb + 1, 2, none⟩ = some (.slice gA gn gc) := M2.out.cellK 1 rfl 2
      have q3 : w2.cell? ⟨gb + 1, 3, none⟩ = some (.slice hA hn hc) := M2.out.cellK 1 rfl 3
      have q4 : w2.cell? ⟨gb + 1, 4, none⟩ = some (.slice iA inn ic) := M2.out.cellK 1 rfl 4
      have HNF := Lib.hid hnf
      clear hnf
      go_wp2_with fail
      refine (HC2.out w2 (HU.out.below M2.out.bel)).mono ?_
      rintro e w3 ⟨rfl, hb3⟩
      dsimp only
      have M3 := Lib.hid (M2.out.below hb3)
      clear M2 hb3 p2 q0 q1 q2 q3 q4
      cases hc2 : carrB pn
      · have HCN := Lib.hid hc2
        clear hc2
        have eR : R = ⟨12, [], [], []⟩ := by rw [← HRR.out]; unfold carriedF; rw [if_neg (by rw [HC.out]; decide), if_neg (by rw [HLN.out, HQ.out.1]; exact not_not_intro HNF.out), if_pos HCN.out]
        have MS := Lib.hid (M3.out)
        have bz := M3.out.cellK 0 rfl
        have fz := M3.out.frozenK 0 rfl
        have ME := Lib.hid (((M3.out.set (i := 0) (.slice none 0 0)).set (i := 1) (.slice none 0 0)).set (i := 2) (.slice none 0 0))
        clear M3
        go_wp2
        refine bodyPost_ret (v := .tuple #[.agg #[.slice none 0 0, .slice none 0 0, .slice none 0 0], .int .i64 12]) ?_ rfl ?_
        · simp [results, Try.results4, go_sem, ME.out.cellK 0 rfl 0, ME.out.cellK 0 rfl 1, ME.out.cellK 0 rfl 2]
        · rw [eR]
          exact CarR.none 12 rfl ME.out.bel

      · have HCN := Lib.hid hc2
        clear hc2
        have q2 : w3.cell? ⟨gb + 1, 2, none⟩ = some (.slice gA gn gc) := M3.out.cellK 1 rfl 2
        obtain ⟨hsb, hhb, hgnb, hfnb⟩ : sn ≤ 20000 ∧ hn ≤ 20000 ∧ gn ≤ 20000 ∧ fn ≤ 20000 := by
          have h1 := HC.out
          have h2 := HCN.out
          have h3 := HQ.out
          try dsimp only at h3
          simp only [carrB, Bool.and_eq_true, decide_eq_true_eq] at h1 h2
          omega
        go_wp2_with (at_builtin; refine wpList_append_rd _ rfl (.const (.slice none 0 0)) (.tmp 31) 23 rfl w3.heap.size 3 i0 _ 1 8 Try.underlying23 hi0 hz0 hz1 hz2 rfl (by omega) (.slice none 0 0) 0 [] rfl (World.ownsRow_nil _ _ _ _) gA gn gc (ints pn.first) rfl (HU.out.first.below M3.out.bel) (ones _ _) ?_ ?_ ?_ ?_)
        · have := HO.out.2.2.2.2.2.2.1
          rw [HQ.out.2.2.1] at this
          unfold maxLen; omega
        · have := HO.out.2.2.2.2.2.2.1
          rw [HQ.out.2.2.1] at this
          omega
        · exact Nat.le_refl _
        intro v' w4 ho4 hg4 hat4
        obtain ⟨FA, fc2, rfl, _⟩ := own_shape ho4
        try simp only [Nat.zero_add, List.nil_append] at ho4
        have M4 := Lib.hid ((M3.out.made (Grow.below hg4 (Nat.le_refl _) (fun g h => by simp [Value.ownBlock] at h)) ho4).alloc 30 #[.slice FA gn fc2, .slice none 0 0, .slice none 0 0])
        clear M3 q2 ho4 hg4 hat4
        try simp only [Nat.zero_add]
        go_upto_region 8 with fail
        generalize World.alloc _ _ = w5 at M4 ⊢
        generalize w4.heap.size = gq at M4 ⊢
        have M5 := Lib.hid (M4.out.nilO 9 1)
        clear M4
        go_wp2
        go_loopw [9] (fun v9 wr => ∃ (k lc nL : Nat) (LA : Option Addr), k ≤ sn ∧ v9 = .int .i64 k ∧ nL = (strangeF (po.slots.take k) pn.slots).length ∧ Hid (Mem w wr [⟨gq, 30, #[.slice FA gn fc2, .slice LA nL lc, .slice none 0 0]⟩, ⟨gb + 1 + 1, 30, #[.slice none 0 0, .slice none 0 0, .slice none 0 0]⟩, ⟨gb + 1, 27, #[.int .i64 uk, .string uname, .slice gA gn gc, .slice hA hn hc, .slice iA inn ic]⟩, ⟨gb, 27, #[.int .i64 vk, .string vname, .slice fA fn fc, .slice sA sn sc, .slice tA tn tc]⟩] [⟨9, 1, LA, nL, lc, strs (strangeF (po.slots.take k) pn.slots)⟩, ⟨3, 1, FA, gn, fc2, ints pn.first⟩])) (fun v9 _ => sn - (intOf v9).toNat)
        case atStart => exact ⟨0, 0, 0, none, Nat.zero_le _, rfl, rfl, M5⟩
        case round =>
          clear M5
          obtain ⟨k, lc, nL, LA, hk, rfl, hnL, M5⟩ := hrel
          have HNL := Lib.hid hnL
          clear hnL
          have p3 : wr.cell? ⟨gb, 3, none⟩ = some (.slice sA sn sc) := M5.out.cellK 3 rfl 3
          by_cases hlt : k < sn
          · obtain ⟨b, o, s, rfl, hs, hbl, c0, c1, c2, c3, c4, c5⟩ := slot_at HV.out.slots hlt
            have HS : Hid (∀ w', Below w.heap.size w w' → w'.cell? ⟨b, o + k * 6, none⟩ = some (.string s.path) ∧ w'.cell? ⟨b, o + k * 6 + 1, none⟩ = some (.int .i64 s.kind) ∧ w'.cell? ⟨b, o + k * 6 + 2, none⟩ = some (.int .i64 s.at_) ∧ w'.cell? ⟨b, o + k * 6 + 3, none⟩ = some (.int .i64 s.len) ∧ w'.cell? ⟨b, o + k * 6 + 4, none⟩ = some (.bool s.keep) ∧ w'.cell? ⟨b, o + k * 6 + 5, none⟩ = some (.int .i64 s.role)) :=
              Lib.hid fun w' hb => ⟨(hb.cell hbl).trans c0, (hb.cell hbl).trans c1, (hb.cell hbl).trans c2, (hb.cell hbl).trans c3, (hb.cell hbl).trans c4, (hb.cell hbl).trans c5⟩
            have hk0 : (0 : Int) ≤ (k : Int) := by omega
            have hkn : (k : Int) < (sn : Int) := by omega
            have HSK := Lib.hid hs
            clear hs hbl c0 c1 c2 c3 c4 c5
            go_upto_region 11 with fail
            have M6 := Lib.hid M5.out.drew
            have dd : wr.drew.cell? ⟨gb + 1, 3, none⟩ = some (.slice hA hn hc) ∧ wr.drew.cell? ⟨gb, 3, none⟩ = some (.slice (some ⟨b, o, none⟩) sn sc) ∧ wr.drew.cell? ⟨b, o + k * 6, none⟩ = some (.string s.path) ∧ wr.drew.cell? ⟨b, o + k * 6 + 1, none⟩ = some (.int .i64 s.kind) ∧ wr.drew.cell? ⟨b, o + k * 6 + 2, none⟩ = some (.int .i64 s.at_) ∧ wr.drew.cell? ⟨b, o + k * 6 + 3, none⟩ = some (.int .i64 s.len) ∧ wr.drew.cell? ⟨b, o + k * 6 + 4, none⟩ = some (.bool s.keep) ∧ wr.drew.cell? ⟨b, o + k * 6 + 5, none⟩ = some (.int .i64 s.role) := ⟨M6.out.cellK 2 rfl 3, M6.out.cellK 3 rfl 3, HS.out _ M6.out.bel⟩
            clear M5 p3
            go_region_held3 (fun w' => w'.cell? ⟨gb + 1, 3, none⟩ = some (.slice hA hn hc) ∧ w'.cell? ⟨gb, 3, none⟩ = some (.slice (some ⟨b, o, none⟩) sn sc) ∧ w'.cell? ⟨b, o + k * 6, none⟩ = some (.string s.path) ∧ w'.cell? ⟨b, o + k * 6 + 1, none⟩ = some (.int .i64 s.kind) ∧ w'.cell? ⟨b, o + k * 6 + 2, none⟩ = some (.int .i64 s.at_) ∧ w'.cell? ⟨b, o + k * 6 + 3, none⟩ = some (.int .i64 s.len) ∧ w'.cell? ⟨b, o + k * 6 + 4, none⟩ = some (.bool s.keep) ∧ w'.cell? ⟨b, o + k * 6 + 5, none⟩ = some (.int .i64 s.role))
              (with_reducible assumption)
              ((go_at_call 14
                refine (known_any hA hn hc pn.slots s wr.drew (HU.out.slots.below M6.out.bel) (by have := HO.out.2.2.2.2.2.2.2.1; rw [HQ.out.2.2.2] at this; exact this)).mono ?_
                rintro e w7 ⟨rfl, hb7⟩
                dsimp only
                have M7 := Lib.hid (M6.out.below hb7)
                have qq : w7.cell? ⟨gb + 1, 3, none⟩ = some (.slice hA hn hc) ∧ w7.cell? ⟨gb, 3, none⟩ = some (.slice (some ⟨b, o, none⟩) sn sc) ∧ w7.cell? ⟨b, o + k * 6, none⟩ = some (.string s.path) ∧ w7.cell? ⟨b, o + k * 6 + 1, none⟩ = some (.int .i64 s.kind) ∧ w7.cell? ⟨b, o + k * 6 + 2, none⟩ = some (.int .i64 s.at_) ∧ w7.cell? ⟨b, o + k * 6 + 3, none⟩ = some (.int .i64 s.len) ∧ w7.cell? ⟨b, o + k * 6 + 4, none⟩ = some (.bool s.keep) ∧ w7.cell? ⟨b, o + k * 6 + 5, none⟩ = some (.int .i64 s.role) := ⟨M7.out.cellK 2 rfl 3, M7.out.cellK 3 rfl 3, HS.out _ M7.out.bel⟩
                clear hb7))
            clear M6 dd qq
            go_upto_if 49 with fail
            rw [knownI_neg]
            have hsn := strange_snoc po.slots pn.slots k s HSK.out
            cases hnb : (knownF pn.slots s).isNone
            · rw [hnb, if_neg (by decide), List.append_nil] at hsn
              have M8 := M7
              have HN8 := HNL
              rw [← hsn] at M8 HN8
              clear M7 hsn hnb
              go_wp2
              go_roundw
              case rel => exact ⟨k + 1, lc, nL, LA, by omega, by go_num, HN8.out, M8⟩
              case measure => simp [intOf]; omega
            · rw [hnb, if_pos rfl] at hsn
              have HSN := Lib.hid hsn
              clear hsn hnb
              go_upto_region 12 with fail
              have M7d := Lib.hid M7.out.drew
              have hC0 : w7.drew.cell? ⟨gb, 3, none⟩ = some (.slice (some ⟨b, o, none⟩) sn sc) ∧ w7.drew.cell? ⟨b, o + k * 6, none⟩ = some (.string s.path) := ⟨M7d.out.cellK 3 rfl 3, (HS.out _ M7d.out.bel).1⟩
              have hD0 : w7.drew.cell? ⟨gq, 1, none⟩ = some (.slice LA nL lc) := M7d.out.cellK 0 rfl 1
              clear M7
              have hnL : nL ≤ 20000 := by
                have h1 := strange_len (po.slots.take k) pn.slots
                have h2 := HC.out
                simp only [carrB, Bool.and_eq_true, decide_eq_true_eq] at h2
                rw [← HNL.out] at h1
                rw [List.length_take] at h1
                omega
              -- HELD
              refine wp_region_L (S := SH 11 (fun w => w.cell? ⟨gb, 3, none⟩ = some (.slice (some ⟨b, o, none⟩) sn sc) ∧ w.cell? ⟨b, o + k * 6, none⟩ = some (.string s.path)) (fun w => w.cell? ⟨gq, 1, none⟩ = some (.slice LA nL lc))) (by kernel_rfl) ?_
              refine wpAnyL_take (i := 0) (m := 11) (SI := (fun _ => True)) (v := ?_) rfl (by kernel_rfl) (by kernel_rfl) (by kernel_rfl) (by kernel_rfl) (by rfl) (by decide) (fun _ _ => SH.x (by decide)) (fun _ _ _ _ => trivial) (fun _ _ _ h => h) (Or.inl ⟨by rfl, ?_⟩) (SH.y (hC0) (hD0)) ?_
              rotate_left
              · intro w hSw
                (try dsimp only at hSw)
                (try obtain ⟨hS1, hS2⟩ := hSw)
                go_simp
                try with_reducible rfl
              try simp only [Act.put, List.getElem_toArray, List.getElem_cons_zero, List.setIfInBounds_toArray, List.set_cons_zero, List.set_cons_succ]
              refine wpAnyL_take (i := 1) (m := 11) (SI := (fun w => (w.cell? ⟨gb, 3, none⟩ = some (.slice (some ⟨b, o, none⟩) sn sc) ∧ w.cell? ⟨b, o + k * 6, none⟩ = some (.string s.path)) ∧ (w.cell? ⟨gq, 1, none⟩ = some (.slice LA nL lc)))) (v := ?_) rfl (by kernel_rfl) (by kernel_rfl) (by kernel_rfl) (by kernel_rfl) (by rfl) (by decide) (fun _ _ => SH.x (by decide)) (fun _ _ h0 h => ⟨h.1, h.2 h0⟩) (fun _ _ _ h => h) (Or.inl ⟨by rfl, ?_⟩) (SH.y (hC0) (hD0)) ?_
              rotate_left
              · intro w hSw
                (try dsimp only at hSw)
                (try obtain ⟨hS1, hS2⟩ := hSw)
                go_simp
                try with_reducible rfl
              try simp only [Act.put, List.getElem_toArray, List.getElem_cons_zero, List.getElem_cons_succ, List.setIfInBounds_toArray, List.set_cons_zero, List.set_cons_succ]
              refine wpAnyL_take (i := 2) (m := 11) (SI := (fun _ => True)) (v := ?_) rfl (by kernel_rfl) (by kernel_rfl) (by kernel_rfl) (by kernel_rfl) (by rfl) (by decide) (fun _ _ => SH.x (by decide)) (fun _ _ _ _ => trivial) (fun _ _ _ h => h) (Or.inl ⟨by rfl, ?_⟩) (SH.y (hC0) (hD0)) ?_
              rotate_left
              · intro w hSw
                (try dsimp only at hSw)
                (try obtain ⟨hS1, hS2⟩ := hSw)
                go_simp
                try with_reducible rfl
              try simp only [Act.put, List.getElem_toArray, List.getElem_cons_zero, List.getElem_cons_succ, List.setIfInBounds_toArray, List.set_cons_zero, List.set_cons_succ]
              refine wpAnyL_take (i := 3) (m := 11) (SI := (fun w => (w.cell? ⟨gb, 3, none⟩ = some (.slice (some ⟨b, o, none⟩) sn sc) ∧ w.cell? ⟨b, o + k * 6, none⟩ = some (.string s.path)) ∧ (w.cell? ⟨gq, 1, none⟩ = some (.slice LA nL lc)))) (v := ?_) rfl (by kernel_rfl) (by kernel_rfl) (by kernel_rfl) (by kernel_rfl) (by rfl) (by decide) (fun _ _ => SH.x (by decide)) (fun _ _ h0 h => ⟨h.1, h.2 h0⟩) (fun _ _ _ h => h) (Or.inl ⟨by rfl, ?_⟩) (SH.y (hC0) (hD0)) ?_
              rotate_left
              · intro w hSw
                (try dsimp only at hSw)
                (try obtain ⟨hS1, hS2⟩ := hSw)
                go_simp
                try with_reducible rfl
              try simp only [Act.put, List.getElem_toArray, List.getElem_cons_zero, List.getElem_cons_succ, List.setIfInBounds_toArray, List.set_cons_zero, List.set_cons_succ]
              refine wpAnyL_take (i := 4) (m := 11) (SI := (fun _ => True)) (v := ?_) rfl (by kernel_rfl) (by kernel_rfl) (by kernel_rfl) (by kernel_rfl) (by rfl) (by decide) (fun _ _ => SH.x (by decide)) (fun _ _ _ _ => trivial) (fun _ _ _ h => h) (Or.inl ⟨by rfl, ?_⟩) (SH.y (hC0) (hD0)) ?_
              rotate_left
              · intro w hSw
                (try dsimp only at hSw)
                (try obtain ⟨hS1, hS2⟩ := hSw)
                go_simp
                try with_reducible rfl
              try simp only [Act.put, List.getElem_toArray, List.getElem_cons_zero, List.getElem_cons_succ, List.setIfInBounds_toArray, List.set_cons_zero, List.set_cons_succ]
              refine wpAnyL_take (i := 5) (m := 11) (SI := (fun _ => True)) (v := ?_) rfl (by kernel_rfl) (by kernel_rfl) (by kernel_rfl) (by kernel_rfl) (by rfl) (by decide) (fun _ _ => SH.x (by decide)) (fun _ _ _ _ => trivial) (fun _ _ _ h => h) (Or.inl ⟨by rfl, ?_⟩) (SH.y (hC0) (hD0)) ?_
              rotate_left
              · intro w hSw
                (try dsimp only at hSw)
                (try obtain ⟨hS1, hS2⟩ := hSw)
                go_simp
                try with_reducible rfl
              try simp only [Act.put, List.getElem_toArray, List.getElem_cons_zero, List.getElem_cons_succ, List.setIfInBounds_toArray, List.set_cons_zero, List.set_cons_succ]
              refine wpAnyL_take (i := 6) (m := 11) (SI := (fun _ => True)) (v := ?_) rfl (by kernel_rfl) (by kernel_rfl) (by kernel_rfl) (by kernel_rfl) (by rfl) (by decide) (fun _ _ => SH.x (by decide)) (fun _ _ _ _ => trivial) (fun _ _ _ h => h) (Or.inl ⟨by rfl, ?_⟩) (SH.y (hC0) (hD0)) ?_
              rotate_left
              · intro w hSw
                (try dsimp only at hSw)
                (try obtain ⟨hS1, hS2⟩ := hSw)
                go_simp
                try with_reducible rfl
              try simp only [Act.put, List.getElem_toArray, List.getElem_cons_zero, List.getElem_cons_succ, List.setIfInBounds_toArray, List.set_cons_zero, List.set_cons_succ]
              refine wpAnyL_take (i := 7) (m := 11) (SI := (fun w => (w.cell? ⟨gb, 3, none⟩ = some (.slice (some ⟨b, o, none⟩) sn sc) ∧ w.cell? ⟨b, o + k * 6, none⟩ = some (.string s.path)) ∧ (w.cell? ⟨gq, 1, none⟩ = some (.slice LA nL lc)))) (v := ?_) rfl (by kernel_rfl) (by kernel_rfl) (by kernel_rfl) (by kernel_rfl) (by rfl) (by decide) (fun _ _ => SH.x (by decide)) (fun _ _ h0 h => ⟨h.1, h.2 h0⟩) (fun _ _ _ h => h) (Or.inl ⟨by rfl, ?_⟩) (SH.y (hC0) (hD0)) ?_
              rotate_left
              · intro w hSw
                (try dsimp only at hSw)
                (try obtain ⟨hS1, hS2⟩ := hSw)
                go_simp
                try with_reducible rfl
              try simp only [Act.put, List.getElem_toArray, List.getElem_cons_zero, List.getElem_cons_succ, List.setIfInBounds_toArray, List.set_cons_zero, List.set_cons_succ]
              refine wpAnyL_ready (rs := [8]) (by kernel_rfl) (by simp) ?_
              refine AllL.cons rfl (by rfl) (fun K hK => ?_) AllL.nil
              have HKK := Lib.hid hK
              clear hK
              go_simp
              have N1 := Lib.hid (M7d.out.alloc 9 #[.string s.path])
              refine HKK.out _ _ (SH.y (⟨N1.out.cellK 4 rfl 3, (HS.out _ N1.out.bel).1⟩) (N1.out.cellK 1 rfl 1)) ?_
              clear HKK K
              try simp only [Act.put, List.getElem_toArray, List.getElem_cons_zero, List.getElem_cons_succ, List.setIfInBounds_toArray, List.set_cons_zero, List.set_cons_succ]
              refine wpAnyL_ready (rs := [9]) (by kernel_rfl) (by simp) ?_
              refine AllL.cons rfl (by rfl) (fun K hK => ?_) AllL.nil
              have HKK := Lib.hid hK
              clear hK
              refine wp_append_sl _ (.tmp 51) (.tmp 58) 28 rfl w.heap.size 9 s0 _ 1 16 Try.underlying28 hs0 hsz0 hsz1 hsz2 rfl (by omega) (.slice LA nL lc) nL (strs (strangeF (po.slots.take k) pn.slots)) rfl (N1.out.rowO 0 rfl) _ 1 1 [.string s.path] rfl (rd_blkR (N1.out.blkK 0 rfl)) (by simp [Value.oneCell']) (by unfold maxLen; omega) (by omega) N1.out.base (nL + 1) rfl ?_
              intro LA2 lc2 wN2 ho hg hat
              have hto : strs (strangeF (po.slots.take k) pn.slots) ++ [.string s.path] = strs (strangeF (po.slots.take (k + 1)) pn.slots) := by rw [HSN.out]; simp [strs]
              rw [hto] at ho
              have N2 := Lib.hid (N1.out.grow hg ho hat)
              clear ho hg hat hto
              refine HKK.out _ _ (SH.y (⟨N2.out.cellK 4 rfl 3, (HS.out _ N2.out.bel).1⟩) (N2.out.cellK 1 rfl 1)) ?_
              clear HKK K
              try simp only [Act.put, List.getElem_toArray, List.getElem_cons_zero, List.getElem_cons_succ, List.setIfInBounds_toArray, List.set_cons_zero, List.set_cons_succ]
              refine wpAnyL_take (i := 10) (m := 11) (SI := (fun _ => True)) (v := ?_) rfl (by kernel_rfl) (by kernel_rfl) (by kernel_rfl) (by kernel_rfl) (by rfl) (by decide) (fun _ _ => SH.x (by decide)) (fun _ _ _ _ => trivial) (fun _ _ _ h => h) (Or.inl ⟨by rfl, ?_⟩) (SH.y (⟨N2.out.cellK 4 rfl 3, (HS.out _ N2.out.bel).1⟩) (N2.out.cellK 1 rfl 1)) ?_
              rotate_left
              · intro w hSw
                (try dsimp only at hSw)
                (try obtain ⟨hS1, hS2⟩ := hSw)
                go_simp
                try with_reducible rfl
              try simp only [Act.put, List.getElem_toArray, List.getElem_cons_zero, List.getElem_cons_succ, List.setIfInBounds_toArray, List.set_cons_zero, List.set_cons_succ]
              refine wpAnyL_ready (rs := [11]) (by kernel_rfl) (by simp) ?_
              refine AllL.cons rfl (by rfl) (fun K hK => ?_) AllL.nil
              have HKK := Lib.hid hK
              clear hK
              have bz := N2.out.cellK 1 rfl 1
              have fz := N2.out.frozenK 1 rfl 1
              go_simp
              have N3 := Lib.hid ((N2.out.upK 1 rfl).set (i := 1) (.slice LA2 (nL + 1) lc2))
              clear bz fz
              refine HKK.out _ _ (SH.z (⟨N3.out.cellK 4 rfl 3, (HS.out _ N3.out.bel).1⟩) (by rfl)) ?_
              clear HKK K
              try simp only [Act.put, List.getElem_toArray, List.getElem_cons_zero, List.getElem_cons_succ, List.setIfInBounds_toArray, List.set_cons_zero, List.set_cons_succ]
              refine wpAnyL_done (by kernel_rfl) ?_ _
              have M8 := Lib.hid (N3.out.delK 1)
              have HN8 : Hid (nL + 1 = (strangeF (po.slots.take (k + 1)) pn.slots).length) := by rw [Hid, HSN.out, List.length_append, ← HNL.out]; rfl
              clear N1 N2 N3 M7d HSN
              go_wp2
              go_roundw
              case rel => exact ⟨k + 1, lc2, nL + 1, LA2, by omega, by go_num, HN8.out, M8⟩
              case measure => simp [intOf]; omega
              -- DLEH
          · have hk1 : ¬ (k : Int) < (sn : Int) := by omega
            have hkn : k = sn := by omega
            have hall : po.slots.take k = po.slots := List.take_of_length_le (by rw [HQ.out.2.1]; exact Nat.le_of_eq hkn.symm)
            rw [hall] at M5 HNL
            have hgs := M5.out.nilO 9 1
            have M6 : Hid (∃ sc2 nS SA, nS = (strangeF (pn.slots.take 0) po.slots).length ∧ Mem w wr [⟨gq, 30, #[.slice FA gn fc2, .slice LA nL lc, .slice SA nS sc2]⟩, ⟨gb + 1 + 1, 30, #[.slice none 0 0, .slice none 0 0, .slice none 0 0]⟩, ⟨gb + 1, 27, #[.int .i64 uk, .string uname, .slice gA gn gc, .slice hA hn hc, .slice iA inn ic]⟩, ⟨gb, 27, #[.int .i64 vk, .string vname, .slice fA fn fc, .slice sA sn sc, .slice tA tn tc]⟩] [⟨9, 1, SA, nS, sc2, strs (strangeF (pn.slots.take 0) po.slots)⟩, ⟨9, 1, LA, nL, lc, strs (strangeF po.slots pn.slots)⟩, ⟨3, 1, FA, gn, fc2, ints (carryF po.slots frame pn.first (pn.slots.take 0))⟩]) := Lib.hid ⟨0, 0, none, rfl, by simpa [strangeF, carryF, strs] using hgs⟩
            clear M5 hgs hall hkn
            go_wp2
            clear p3
            go_loopw [10] (fun v10 wr => ∃ (k : Nat), k ≤ hn ∧ v10 = .int .i64 k ∧ Hid (∃ sc2 nS SA, nS = (strangeF (pn.slots.take k) po.slots).length ∧ Mem w wr [⟨gq, 30, #[.slice FA gn fc2, .slice LA nL lc, .slice SA nS sc2]⟩, ⟨gb + 1 + 1, 30, #[.slice none 0 0, .slice none 0 0, .slice none 0 0]⟩, ⟨gb + 1, 27, #[.int .i64 uk, .string uname, .slice gA gn gc, .slice hA hn hc, .slice iA inn ic]⟩, ⟨gb, 27, #[.int .i64 vk, .string vname, .slice fA fn fc, .slice sA sn sc, .slice tA tn tc]⟩] [⟨9, 1, SA, nS, sc2, strs (strangeF (pn.slots.take k) po.slots)⟩, ⟨9, 1, LA, nL, lc, strs (strangeF po.slots pn.slots)⟩, ⟨3, 1, FA, gn, fc2, ints (carryF po.slots frame pn.first (pn.slots.take k))⟩])) (fun v10 _ => hn - (intOf v10).toNat)
            case atStart => exact ⟨0, Nat.zero_le _, rfl, M6⟩
            case round =>
              clear M6
              obtain ⟨k, hk, rfl, M5⟩ := hrel
              obtain ⟨sc2, nS, SA, hnS, M5⟩ := M5.out
              have M5 := Lib.hid M5
              have HNS := Lib.hid hnS
              clear hnS
              have q3 : wr.cell? ⟨gb + 1, 3, none⟩ = some (.slice hA hn hc) := M5.out.cellK 2 rfl 3
              by_cases hlt : k < hn
              · have p3 : wr.cell? ⟨gb, 3, none⟩ = some (.slice sA sn sc) := M5.out.cellK 3 rfl 3
                obtain ⟨b, o, s, rfl, hs, hbl, c0, c1, c2, c3, c4, c5⟩ := slot_at (HU.out.slots.below M5.out.bel) hlt
                have hk0 : (0 : Int) ≤ (k : Int) := by omega
                have hkn : (k : Int) < (hn : Int) := by omega
                have hsl : slotB gn s = true := by
                  have h2 := HCN.out
                  simp only [carrB, Bool.and_eq_true, decide_eq_true_eq, List.all_eq_true] at h2
                  have h3 := h2.2 s (List.mem_of_getElem? hs)
                  rw [HQ.out.2.2.1] at h3
                  exact h3
                have hsp := slot_parts hsl
                have hwf := words_fit hsl
                have HSL := Lib.hid hsl
                have HSK := Lib.hid hs
                obtain ⟨spath, skind, sat, slen, skeep, srole⟩ := s
                dsimp only at c0 c1 c2 c3 c4 c5 hsp
                obtain ⟨at_, hat_⟩ : ∃ m : Nat, sat = (m : Int) := ⟨sat.toNat, by omega⟩
                subst hat_
                obtain ⟨W, hW⟩ : ∃ W, wordsF ⟨spath, skind, (at_ : Int), slen, skeep, srole⟩ = W := ⟨_, rfl⟩
                rw [hW] at hwf
                obtain ⟨hwf1, hwf2⟩ := hwf
                simp only [Int.toNat_natCast] at hwf1
                have HW := Lib.hid hW
                clear hs hsl hW
                go_upto_region 17 with fail
                have M6 := Lib.hid (M5.out.alloc 50 #[.string spath, .int .i64 skind, .int .i64 (at_ : Int), .int .i64 slen, .bool skeep, .int .i64 srole])
                clear M5 q3 p3 hbl c0 c1 c2 c3 c4 c5
                generalize World.alloc _ _ = w7 at M6 ⊢
                generalize wr.heap.size = gs at M6 ⊢
                have p3 : w7.cell? ⟨gb, 3, none⟩ = some (.slice sA sn sc) := M6.out.cellK 4 rfl 3
                have y0 : w7.cell? ⟨gs, 0, none⟩ = some (.string spath) := M6.out.cellK 0 rfl 0
                have y1 : w7.cell? ⟨gs, 1, none⟩ = some (.int .i64 skind) := M6.out.cellK 0 rfl 1
                have y2 : w7.cell? ⟨gs, 2, none⟩ = some (.int .i64 (at_ : Int)) := M6.out.cellK 0 rfl 2
                have y3 : w7.cell? ⟨gs, 3, none⟩ = some (.int .i64 slen) := M6.out.cellK 0 rfl 3
                have y4 : w7.cell? ⟨gs, 4, none⟩ = some (.bool skeep) := M6.out.cellK 0 rfl 4
                have y5 : w7.cell? ⟨gs, 5, none⟩ = some (.int .i64 srole) := M6.out.cellK 0 rfl 5
                go_wp2_with fail
                refine (known_any sA sn sc po.slots ⟨spath, skind, (at_ : Int), slen, skeep, srole⟩ w7 (HV.out.slots.below M6.out.bel) (by omega)).mono ?_
                rintro e w8 ⟨rfl, hb8⟩
                dsimp only
                have M8 := Lib.hid (M6.out.below hb8)
                clear M6 hb8 p3 y0 y1 y2 y3 y4 y5
                go_upto_if 78 with fail
                rw [knownI_neg]
                have hsn := strange_snoc pn.slots po.slots k _ HSK.out
                have hcn := carryF_snoc po.slots frame pn.first pn.slots k _ HSK.out
                have hFl : Hid ((carryF po.slots frame pn.first (pn.slots.take k)).length = gn) := rd_len (M8.out.rdO 2 rfl)
                cases hnb : knownF po.slots ⟨spath, skind, (at_ : Int), slen, skeep, srole⟩ with
                | none =>
                  rw [hnb] at hsn
                  have hcn2 : carryF po.slots frame pn.first (pn.slots.take (k + 1)) = (carryF po.slots frame pn.first (pn.slots.take k)) := by
                    rw [hcn]
                    unfold carry1
                    rw [hnb]
                  have HSN := Lib.hid hsn
                  have HCN2 := Lib.hid hcn2
                  clear hsn hcn hcn2 hnb
                  have z2 : w8.cell? ⟨gq, 2, none⟩ = some (.slice SA nS sc2) := M8.out.cellK 1 rfl 2
                  have f2 := M8.out.frozenK 1 rfl 2
                  have y0 : w8.cell? ⟨gs, 0, none⟩ = some (.string spath) := M8.out.cellK 0 rfl 0
                  have hnSb : nS ≤ 20000 := by
                    have h1 := strange_len (pn.slots.take k) po.slots
                    rw [← HNS.out, List.length_take] at h1
                    omega
                  go_wp2_with (at_builtin; refine wpList_append_rd _ rfl (.tmp 80) (.tmp 83) 28 rfl w.heap.size 9 s0 _ 1 16 Try.underlying28 hs0 hsz0 hsz1 hsz2 rfl (by omega) (.slice SA nS sc2) nS (strs (strangeF (pn.slots.take k) po.slots)) rfl ((M8.out.rowO 0 rfl).alloc _) _ 1 1 [.string spath] rfl (rd_newR _ _ _) ?_ ?_ ?_ ?_ ?_)
                  · simp [Value.oneCell']
                  · unfold maxLen; omega
                  · omega
                  · have := M8.out.base
                    try simp only [World.size_alloc]
                    omega
                  · intro v9 w9 ho9 hg9 hat9
                    obtain ⟨SA2, sc3, rfl, _⟩ := own_shape ho9
                    have hto : strs (strangeF (pn.slots.take k) po.slots) ++ [.string spath] = strs (strangeF (pn.slots.take (k + 1)) po.slots) := by rw [HSN.out]; simp [strs]
                    rw [hto] at ho9
                    have hm9 := M8.out.appd hg9 ho9 hat9
                    have z2 := hm9.cellK 1 rfl 2
                    have f2 := hm9.frozenK 1 rfl 2
                    have M9 := Lib.hid (((hm9.upK 1 rfl).set (i := 2) (.slice SA2 (nS + 1) sc3)).delK 1)
                    have HN9 : Hid (nS + 1 = (strangeF (pn.slots.take (k + 1)) po.slots).length) := by rw [Hid, HSN.out, List.length_append, ← HNS.out]; rfl
                    clear hm9 M8 ho9 hg9 hat9 hto
                    go_upto_region 15 with fail
                    clear z2 f2
                    generalize World.setCell _ _ _ = w10 at M9 ⊢
                    rw [← HCN2.out] at M9
                    go_wp2
                    go_roundw
                    case rel => exact ⟨k + 1, by omega, by go_num, Lib.hid ⟨_, _, _, HN9.out, M9.out⟩⟩
                    case measure => simp [intOf]; omega
                | some k0 =>
                  have hki : knownI po.slots ⟨spath, skind, (at_ : Int), slen, skeep, srole⟩ = (k0 : Int) := by
                    unfold knownI
                    rw [hnb]
                  rw [hki]
                  simp only [Option.isNone_some]
                  rw [hnb] at hsn
                  have hsn2 : strangeF (pn.slots.take (k + 1)) po.slots = (strangeF (pn.slots.take k) po.slots) := by
                    rw [hsn]
                    simp
                  obtain ⟨t, ht, hal⟩ := known_some hnb
                  have htl : slotB fn t = true := by
                    have h2 := HC.out
                    simp only [carrB, Bool.and_eq_true, decide_eq_true_eq, List.all_eq_true] at h2
                    have h3 := h2.2 t (List.mem_of_getElem? ht)
                    rw [HQ.out.1] at h3
                    exact h3
                  have htp := slot_parts htl
                  have htw := words_fit htl
                  rw [words_len hal, HW.out] at htw
                  have hk0n : k0 < sn := by
                    have := (List.getElem?_eq_some_iff.1 ht).1
                    rw [HQ.out.2.1] at this
                    exact this
                  obtain ⟨b2, o2, t', hA2, ht', hbl2, d0, d1, d2, d3, d4, d5⟩ := slot_at HV.out.slots hk0n
                  obtain rfl := Option.some.inj (ht'.symm.trans ht)
                  subst hA2
                  have hcn2 : carryF po.slots frame pn.first (pn.slots.take (k + 1)) = putF (carryF po.slots frame pn.first (pn.slots.take k)) at_ (wordsAt frame t'.at_.toNat W) := by
                    rw [hcn]
                    unfold carry1
                    rw [hnb]
                    simp only [ht, Option.map_some, Option.getD_some, HW.out, Int.toNat_natCast]
                  obtain ⟨tpath, tkind, tat, tlen, tkeep, trole⟩ := t'
                  dsimp only at d0 d1 d2 d3 d4 d5 htp hcn2 htw
                  obtain ⟨ta, hta⟩ : ∃ m : Nat, tat = (m : Int) := ⟨tat.toNat, by omega⟩
                  subst hta
                  simp only [Int.toNat_natCast] at hcn2 htw
                  obtain ⟨htw1, htw2⟩ := htw
                  have HSN := Lib.hid hsn2
                  have HCN2 := Lib.hid hcn2
                  have HD2 : Hid (∀ w', Below w.heap.size w w' → w'.cell? ⟨b2, o2 + k0 * 6 + 2, none⟩ = some (.int .i64 (ta : Int))) := Lib.hid fun w' hb => (hb.cell hbl2).trans d2
                  clear hsn hcn hcn2 hsn2 hnb hki hal ht htl htp hbl2 d0 d1 d2 d3 d4 d5
                  have y3 : w8.cell? ⟨gs, 3, none⟩ = some (.int .i64 slen) := M8.out.cellK 0 rfl 3
                  go_upto_if 88 with fail
                  go_cut [13] from 89 to 90 (fun v13 wc => v13 = .int .i64 (W : Int) ∧ w8 = wc)
                  case first =>
                    have hww := HW.out
                    unfold wordsF at hww
                    dsimp only at hww
                    by_cases hl : 0 < slen
                    · have hw := Lib.hid (show (W : Int) = slen by omega)
                      clear hww
                      go_wp2
                      go_meet
                      exact ⟨by rw [hw.out], rfl⟩
                    · have hw := Lib.hid (show (W : Int) = 1 by omega)
                      clear hww
                      go_wp2
                      go_meet
                      exact ⟨by rw [hw.out], rfl⟩
                  case rest =>
                    obtain ⟨rfl, rfl⟩ := hcut
                    clear y3
                    have hn0 : 0 < n := by rw [HNF.out]; omega
                    obtain ⟨bf, of, rfl, hcf⟩ := HR.out.2 hn0
                    obtain ⟨gF, rfl, hgF⟩ := (M8.out.upO 2 rfl).head (by omega)
                    have HCF : Hid (∀ (j : Nat) (x : Int), frame[j]? = some x → ∀ w', Below w.heap.size w w' → w'.cell? ⟨bf, of + j, none⟩ = some (.int .i64 x)) := Lib.hid fun j x hx w' hb => by
                      have h := hcf j (.int .i64 x) (by simp [ints, hx])
                      exact (hb.cell (lt_of_cell h)).trans h
                    have M9 : Hid (Mem w w8 [⟨gs, 50, #[.string spath, .int .i64 skind, .int .i64 (at_ : Int), .int .i64 slen, .bool skeep, .int .i64 srole]⟩, ⟨gq, 30, #[.slice (some ⟨gF, 0, none⟩) gn fc2, .slice LA nL lc, .slice SA nS sc2]⟩, ⟨gb + 1 + 1, 30, #[.slice none 0 0, .slice none 0 0, .slice none 0 0]⟩, ⟨gb + 1, 27, #[.int .i64 uk, .string uname, .slice gA gn gc, .slice (some ⟨b, o, none⟩) hn hc, .slice iA inn ic]⟩, ⟨gb, 27, #[.int .i64 vk, .string vname, .slice fA fn fc, .slice (some ⟨b2, o2, none⟩) sn sc, .slice tA tn tc]⟩] [⟨9, 1, SA, nS, sc2, strs (strangeF (pn.slots.take k) po.slots)⟩, ⟨9, 1, LA, nL, lc, strs (strangeF po.slots pn.slots)⟩, ⟨3, 1, some ⟨gF, 0, none⟩, gn, fc2, ints (putF (carryF po.slots frame pn.first (pn.slots.take k)) at_ (wordsAt frame ta 0))⟩]) := by
                      rw [put_zero]
                      exact M8
                    have hfl : Hid (frame.length = fn) := Lib.hid (HLN.out.trans HNF.out)
                    clear M8 hcf hgF hn0
                    go_wp2
                    go_loopw [14] (fun v14 wi => ∃ j : Nat, j ≤ W ∧ v14 = .int .i64 j ∧ Hid (Mem w wi [⟨gs, 50, #[.string spath, .int .i64 skind, .int .i64 (at_ : Int), .int .i64 slen, .bool skeep, .int .i64 srole]⟩, ⟨gq, 30, #[.slice (some ⟨gF, 0, none⟩) gn fc2, .slice LA nL lc, .slice SA nS sc2]⟩, ⟨gb + 1 + 1, 30, #[.slice none 0 0, .slice none 0 0, .slice none 0 0]⟩, ⟨gb + 1, 27, #[.int .i64 uk, .string uname, .slice gA gn gc, .slice (some ⟨b, o, none⟩) hn hc, .slice iA inn ic]⟩, ⟨gb, 27, #[.int .i64 vk, .string vname, .slice fA fn fc, .slice (some ⟨b2, o2, none⟩) sn sc, .slice tA tn tc]⟩] [⟨9, 1, SA, nS, sc2, strs (strangeF (pn.slots.take k) po.slots)⟩, ⟨9, 1, LA, nL, lc, strs (strangeF po.slots pn.slots)⟩, ⟨3, 1, some ⟨gF, 0, none⟩, gn, fc2, ints (putF (carryF po.slots frame pn.first (pn.slots.take k)) at_ (wordsAt frame ta j))⟩])) (fun v14 _ => W - (intOf v14).toNat)
                    case atStart => exact ⟨0, Nat.zero_le _, rfl, M9⟩
                    case round =>
                      clear M9
                      obtain ⟨j, hj, rfl, M9⟩ := hrel
                      by_cases hjl : j < W
                      · obtain ⟨x, hx⟩ : ∃ x, frame[ta + j]? = some x := ⟨_, List.getElem?_eq_getElem (by rw [hfl.out]; omega)⟩
                        have hnx := put_next (F := (carryF po.slots frame pn.first (pn.slots.take k))) (off := at_) (j := j) (f := frame) (a := ta) (by rw [hFl.out]; omega) hx
                        obtain ⟨I, hI⟩ : ∃ I, at_ + j = I := ⟨_, rfl⟩
                        obtain ⟨J, hJ⟩ : ∃ J, ta + j = J := ⟨_, rfl⟩
                        rw [hI] at hnx
                        rw [hJ] at hx
                        have hj0 : (0 : Int) ≤ (j : Int) := by omega
                        have hjW : (j : Int) < (W : Int) := by omega
                        have hw1 : IntKind.i64.wrap ((at_ : Int) + (j : Int)) = (I : Int) := wrap_add hI (by omega)
                        have hw2 : IntKind.i64.wrap ((ta : Int) + (j : Int)) = (J : Int) := wrap_add hJ (by omega)
                        have hI0 : (0 : Int) ≤ (I : Int) := by omega
                        have hI1 : (I : Int) < (gn : Int) := by omega
                        have hJ0 : (0 : Int) ≤ (J : Int) := by omega
                        have hJ1 : (J : Int) < (n : Int) := by rw [HNF.out]; omega
                        have hk0 : (0 : Int) ≤ (k0 : Int) := by omega
                        have hk1 : (k0 : Int) < (sn : Int) := by omega
                        have HNX := Lib.hid hnx
                        have HXX := Lib.hid (HCF.out J x hx)
                        have hro := M9.out.rowO 2 rfl
                        obtain ⟨y, cF⟩ : ∃ y, wr.cell? ⟨gF, I, none⟩ = some y := ⟨_, (hro.cellAt I (by omega)).trans (List.getElem?_eq_getElem (by rw [hro.1]; omega))⟩
                        have fF : wr.frozen? ⟨gF, I, none⟩ = false := hro.frozenAt I
                        have MP := Lib.hid (((M9.out.upO 2 rfl).put (j := I) (.int .i64 x)).drew)
                        have hset : (ints (putF (carryF po.slots frame pn.first (pn.slots.take k)) at_ (wordsAt frame ta j))).set I (.int .i64 x) = ints (putF (carryF po.slots frame pn.first (pn.slots.take k)) at_ (wordsAt frame ta (j + 1))) := by
                          rw [← HNX.out]
                          simp [ints, List.map_set]
                        rw [hset] at MP
                        have dd : wr.drew.cell? ⟨gq, 0, none⟩ = some (.slice (some ⟨gF, 0, none⟩) gn fc2) ∧ wr.drew.cell? ⟨gs, 2, none⟩ = some (.int .i64 (at_ : Int)) ∧ wr.drew.cell? ⟨gb, 3, none⟩ = some (.slice (some ⟨b2, o2, none⟩) sn sc) ∧ wr.drew.cell? ⟨b2, o2 + k0 * 6 + 2, none⟩ = some (.int .i64 (ta : Int)) ∧ wr.drew.cell? ⟨bf, of + J, none⟩ = some (.int .i64 x) :=
                          ⟨M9.out.cellK 1 rfl 0, M9.out.cellK 0 rfl 2, M9.out.cellK 4 rfl 3, HD2.out _ M9.out.drew.bel, HXX.out _ M9.out.drew.bel⟩
                        have qq : (wr.setCell ⟨gF, I, none⟩ (.int .i64 x)).drew.cell? ⟨gq, 0, none⟩ = some (.slice (some ⟨gF, 0, none⟩) gn fc2) ∧ (wr.setCell ⟨gF, I, none⟩ (.int .i64 x)).drew.cell? ⟨gs, 2, none⟩ = some (.int .i64 (at_ : Int)) ∧ (wr.setCell ⟨gF, I, none⟩ (.int .i64 x)).drew.cell? ⟨gb, 3, none⟩ = some (.slice (some ⟨b2, o2, none⟩) sn sc) ∧ (wr.setCell ⟨gF, I, none⟩ (.int .i64 x)).drew.cell? ⟨b2, o2 + k0 * 6 + 2, none⟩ = some (.int .i64 (ta : Int)) ∧ (wr.setCell ⟨gF, I, none⟩ (.int .i64 x)).drew.cell? ⟨bf, of + J, none⟩ = some (.int .i64 x) :=
                          ⟨MP.out.cellK 1 rfl 0, MP.out.cellK 0 rfl 2, MP.out.cellK 4 rfl 3, HD2.out _ MP.out.bel, HXX.out _ MP.out.bel⟩
                        clear hx hnx hset hro hI hJ M9
                        go_upto_region 26 with fail
                        go_region_held3 (fun w' => w'.cell? ⟨gq, 0, none⟩ = some (.slice (some ⟨gF, 0, none⟩) gn fc2) ∧ w'.cell? ⟨gs, 2, none⟩ = some (.int .i64 (at_ : Int)) ∧ w'.cell? ⟨gb, 3, none⟩ = some (.slice (some ⟨b2, o2, none⟩) sn sc) ∧ w'.cell? ⟨b2, o2 + k0 * 6 + 2, none⟩ = some (.int .i64 (ta : Int)) ∧ w'.cell? ⟨bf, of + J, none⟩ = some (.int .i64 x)) (with_reducible assumption) (fail)
                        have M10 := Lib.hid (((MP.out.upO 1 rfl).upO 2 rfl).upO 1 rfl)
                        clear MP dd qq cF fF
                        go_wp2
                        go_roundw
                        case rel => exact ⟨j + 1, by omega, by go_num, M10⟩
                        case measure => simp [intOf]; omega
                      · have hjl1 : ¬ (j : Int) < (W : Int) := by omega
                        have hjW : j = W := by omega
                        rw [hjW, ← HCN2.out, ← HSN.out] at M9
                        have HN9 : Hid (nS = (strangeF (pn.slots.take (k + 1)) po.slots).length) := by rw [HSN.out]; exact HNS
                        have M10 := Lib.hid (M9.out.delK 0)
                        clear M9
                        go_wp2
                        go_roundw
                        case rel => exact ⟨k + 1, by omega, by go_num, Lib.hid ⟨_, _, _, HN9.out, M10.out⟩⟩
                        case measure => simp [intOf]; omega
              · have hk1 : ¬ (k : Int) < (hn : Int) := by omega
                have hkn : k = hn := by omega
                have hall : pn.slots.take k = pn.slots := List.take_of_length_le (by rw [HQ.out.2.2.2]; exact Nat.le_of_eq hkn.symm)
                rw [hall] at M5 HNS
                have eR : R = ⟨0, carryF po.slots frame pn.first pn.slots, strangeF po.slots pn.slots, strangeF pn.slots po.slots⟩ := by
                  rw [← HRR.out]
                  unfold carriedF
                  rw [if_neg (by rw [HC.out]; decide), if_neg (by rw [HLN.out, HQ.out.1]; exact not_not_intro HNF.out), if_neg (by rw [HCN.out]; decide)]
                have HE := Lib.hid eR
                have hFl : Hid ((carryF po.slots frame pn.first pn.slots).length = gn) := rd_len (M5.out.rdO 2 rfl)
                have z0 : wr.cell? ⟨gq, 0, none⟩ = some (.slice FA gn fc2) := M5.out.cellK 0 rfl 0
                have z1 : wr.cell? ⟨gq, 1, none⟩ = some (.slice LA nL lc) := M5.out.cellK 0 rfl 1
                have z2 : wr.cell? ⟨gq, 2, none⟩ = some (.slice SA nS sc2) := M5.out.cellK 0 rfl 2
                have bz := M5.out.cellK 1 rfl
                have fz := M5.out.frozenK 1 rfl
                have ME := Lib.hid ((((M5.out.upK 1 rfl).set (i := 0) (.slice FA gn fc2)).set (i := 1) (.slice LA nL lc)).set (i := 2) (.slice SA nS sc2))
                clear M5 eR hall hkn
                go_wp2
                refine bodyPost_ret (v := .tuple #[.agg #[.slice FA gn fc2, .slice LA nL lc, .slice SA nS sc2], .int .i64 0]) ?_ rfl ?_
                · simp [results, Try.results4, go_sem, ME.out.cellK 0 rfl 0, ME.out.cellK 0 rfl 1, ME.out.cellK 0 rfl 2]
                · rw [HE.out]
                  refine ⟨FA, fc2, LA, lc, SA, sc2, ?_, ?_⟩
                  · rw [hFl.out, ← HNL.out, ← HNS.out]
                  · have h := Mem.rows ((ME.out.upO 1 rfl).upO 2 rfl)
                    rw [hFl.out, ← HNL.out, ← HNS.out]
                    exact h
    · have e1 : ((n : Int) != (fn : Int)) = true := by simp; omega
      have eR : R = ⟨4, [], [], []⟩ := by rw [← HRR.out]; unfold carriedF; rw [if_neg (by rw [HC.out]; decide), if_pos (by rw [HLN.out, HQ.out.1]; exact hnf)]
      have MS := Lib.hid (M2.out)
      have bz := M2.out.cellK 0 rfl
      have fz := M2.out.frozenK 0 rfl
      have ME := Lib.hid (((M2.out.set (i := 0) (.slice none 0 0)).set (i := 1) (.slice none 0 0)).set (i := 2) (.slice none 0 0))
      clear M2
      go_wp2
      refine bodyPost_ret (v := .tuple #[.agg #[.slice none 0 0, .slice none 0 0, .slice none 0 0], .int .i64 4]) ?_ rfl ?_
      · simp [results, Try.results4, go_sem, ME.out.cellK 0 rfl 0, ME.out.cellK 0 rfl 1, ME.out.cellK 0 rfl 2]
      · rw [eR]
        exact CarR.none 4 rfl ME.out.bel

end Go.Proofs.Ytnalabohhocjaaa.Chg
