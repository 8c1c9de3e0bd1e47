/-
  The program's Carry. Conditions: the code and the frame read.
-/
import Derived.Test.YtnalabohhocjaaaChg9
import Derived.Test.YtnalabohhocjaaaClone
import Derived.Test.YtnalabohhocjaaaCpM
import Derived.Test.YtnalabohhocjaaaCpN
import Derived.Test.YtnalabohhocjaaaHeld2
namespace Go.Proofs.Ytnalabohhocjaaa.Chg
open Go.RowKit Go.Shelf Go.Maps Go.Proofs.Ytnalabohhocjaaa.W Go.Proofs.Ytnalabohhocjaaa.Ints Go.Proofs.Ytnalabohhocjaaa.Cod

attribute [local go_sem] Oper.semAt_some

set_option maxRecDepth 100000 in
set_option maxHeartbeats 12800000 in
theorem Carry_any (v u : PV) (po pn : PD) (A : Option Addr) (n c : Nat) (frame : List Int) (w : World) (hv : PRd w v po) (hu : PRd w u pn) (hov : po.ok) (hou : pn.ok) (hr : Rd w 1 A n (ints frame)) (hnc : n ≤ c) :
    Calls Try.prog 6 #[v.val, .slice A n c, u.val] w fun e w' => CarR w w' e (carriedF po frame pn) := by
  have HC1 := Lib.hid (fun w hw => may_any v po w hw hov)
  have HC2 := Lib.hid (fun w hw => may_any u pn w hw hou)
  have HV := Lib.hid hv
  have HU := Lib.hid hu
  have HR := Lib.hid hr
  have HLN : Hid (frame.length = n) := rd_len hr
  have HQ := Lib.hid (And.intro hv.fl (And.intro hv.sl (And.intro hu.fl hu.sl)))
  have HO := Lib.hid (And.intro hov hou)
  obtain ⟨R, hR⟩ : ∃ R, carriedF po frame pn = R := ⟨_, rfl⟩
  rw [hR]
  have HRR := Lib.hid hR
  clear hv hu hov hou hr hR
  obtain ⟨vk, vname, fA, fn, fc, sA, sn, sc, tA, tn, tc⟩ := v
  obtain ⟨uk, uname, gA, gn, gc, hA, hn, hc, iA, inn, ic⟩ := u
  go_enter Try.func6, Try.ntmps6
  go_upto_region 1 with fail
  have M0 := Lib.hid ((((Mem.start w).alloc 27 #[.int .i64 vk, .string vname, .slice fA fn fc, .slice sA sn sc, .slice tA tn tc]).alloc 27 #[.int .i64 uk, .string uname, .slice gA gn gc, .slice hA hn hc, .slice iA inn ic]).alloc 30 #[.slice none 0 0, .slice none 0 0, .slice none 0 0])
  simp only [World.size_alloc] at M0
  generalize World.alloc (World.alloc _ _) _ = w1 at M0 ⊢
  generalize w.heap.size = gb at M0 ⊢
  have px := M0.out.cellK 2 rfl
  have p0 : w1.cell? ⟨gb, 0, none⟩ = some (.int .i64 vk) := px 0
  have p1 : w1.cell? ⟨gb, 1, none⟩ = some (.string vname) := px 1
  have p2 : w1.cell? ⟨gb, 2, none⟩ = some (.slice fA fn fc) := px 2
  have p3 : w1.cell? ⟨gb, 3, none⟩ = some (.slice sA sn sc) := px 3
  have p4 : w1.cell? ⟨gb, 4, none⟩ = some (.slice tA tn tc) := px 4
  clear px
  go_wp2_with fail
  refine (HC1.out w1 (HV.out.below M0.out.bel)).mono ?_
  rintro e w2 ⟨rfl, hb2⟩
  dsimp only
  have M2 := Lib.hid (M0.out.below hb2)
  clear M0 hb2 p0 p1 p2 p3 p4
  have p2 : w2.cell? ⟨gb, 2, none⟩ = some (.slice fA fn fc) := M2.out.cellK 2 rfl 2
  cases hc1 : carrB po
  · have HC := Lib.hid hc1
    clear hc1
    have eR : R = ⟨12, [], [], []⟩ := by rw [← HRR.out]; unfold carriedF; rw [if_pos HC.out]
    have bz := M2.out.cellK 0 rfl
    have fz := M2.out.frozenK 0 rfl
    have ME := Lib.hid (((M2.out.set (i := 0) (.slice none 0 0)).set (i := 1) (.slice none 0 0)).set (i := 2) (.slice none 0 0))
    clear M2
    go_wp2
    refine bodyPost_ret (v := .tuple #[.agg #[.slice none 0 0, .slice none 0 0, .slice none 0 0], .int .i64 12]) ?_ rfl ?_
    · simp [results, Try.results6, go_sem, ME.out.cellK 0 rfl 0, ME.out.cellK 0 rfl 1, ME.out.cellK 0 rfl 2]
    · rw [eR]
      exact CarR.none 12 rfl ME.out.bel
  · have HC := Lib.hid hc1
    clear hc1
    by_cases hnf : n = fn
    · have e1 : ((n : Int) != (fn : Int)) = false := by simp; omega
      have q0 : w2.cell? ⟨gb + 1, 0, none⟩ = some (.int .i64 uk) := M2.out.cellK 1 rfl 0
      have q1 : w2.cell? ⟨gb + 1, 1, none⟩ = some (.string uname) := M2.out.cellK 1 rfl 1
      have q2 : w2.cell? ⟨gb + 1, 2, none⟩ = some (.slice gA gn gc) := M2.out.cellK 1 rfl 2
      have q3 : w2.cell? ⟨gb + 1, 3, none⟩ = some (.slice hA hn hc) := M2.out.cellK 1 rfl 3
      have q4 : w2.cell? ⟨gb + 1, 4, none⟩ = some (.slice iA inn ic) := M2.out.cellK 1 rfl 4
      have HNF := Lib.hid hnf
      clear hnf
      go_wp2_with fail
      refine (HC2.out w2 (HU.out.below M2.out.bel)).mono ?_
      rintro e w3 ⟨rfl, hb3⟩
      dsimp only
      have M3 := Lib.hid (M2.out.below hb3)
      clear M2 hb3 p2 q0 q1 q2 q3 q4
      cases hc2 : carrB pn
      · have HCN := Lib.hid hc2
        clear hc2
        have eR : R = ⟨12, [], [], []⟩ := by rw [← HRR.out]; unfold carriedF; rw [if_neg (by rw [HC.out]; decide), if_neg (by rw [HLN.out, HQ.out.1]; exact not_not_intro HNF.out), if_pos HCN.out]
        have bz := M3.out.cellK 0 rfl
        have fz := M3.out.frozenK 0 rfl
        have ME := Lib.hid (((M3.out.set (i := 0) (.slice none 0 0)).set (i := 1) (.slice none 0 0)).set (i := 2) (.slice none 0 0))
        clear M3
        go_wp2
        refine bodyPost_ret (v := .tuple #[.agg #[.slice none 0 0, .slice none 0 0, .slice none 0 0], .int .i64 12]) ?_ rfl ?_
        · simp [results, Try.results6, go_sem, ME.out.cellK 0 rfl 0, ME.out.cellK 0 rfl 1, ME.out.cellK 0 rfl 2]
        · rw [eR]
          exact CarR.none 12 rfl ME.out.bel
      · have HCN := Lib.hid hc2
        clear hc2
        have p3 : w3.cell? ⟨gb, 3, none⟩ = some (.slice sA sn sc) := M3.out.cellK 2 rfl 3
        obtain ⟨hsb, hhb, hgnb, hfnb⟩ : sn ≤ 20000 ∧ hn ≤ 20000 ∧ gn ≤ 20000 ∧ fn ≤ 20000 := by
          have h1 := HC.out
          have h2 := HCN.out
          have h3 := HQ.out
          try dsimp only at h3
          simp only [carrB, Bool.and_eq_true, decide_eq_true_eq] at h1 h2
          omega
        go_wp2_with fail
        refine (index_any sA sn sc po.slots w3 (HV.out.slots.below M3.out.bel) HO.out.1.2.2.2.1 hsb).mono ?_
        rintro e w4 ⟨gi, rfl, hgi, ho4, hb4⟩
        dsimp only
        have M4 := Lib.hid (M3.out.below hb4)
        have HOW : Hid (∀ w', Below w4.heap.size w4 w' → OwnM w' gi sn (mapF po.slots 0)) := Lib.hid fun w' hb => own_below ho4 hb
        have hgi1 : gb + 1 + 1 < gi := by have := (M3.out.ltK 0 rfl).2; omega
        clear M3 hb4 p3 ho4 hgi
        go_upto_region 8 with fail
        go_cut [9] from 36 to 86 (fun v9 wc => ∃ gq FA fc2 LA lc nL SA sc2 nS, v9 = .pointer (some ⟨gq, 0, none⟩) ∧ Hid (Mem w wc [⟨gq, 30, #[.slice FA gn fc2, .slice LA nL lc, .slice SA nS sc2]⟩, ⟨gb + 1 + 1, 30, #[.slice none 0 0, .slice none 0 0, .slice none 0 0]⟩, ⟨gb + 1, 27, #[.int .i64 uk, .string uname, .slice gA gn gc, .slice hA hn hc, .slice iA inn ic]⟩, ⟨gb, 27, #[.int .i64 vk, .string vname, .slice fA fn fc, .slice sA sn sc, .slice tA tn tc]⟩] [⟨9, 1, SA, nS, sc2, strs (strangeF pn.slots po.slots)⟩, ⟨9, 1, LA, nL, lc, strs (strangeF po.slots pn.slots)⟩, ⟨3, 1, FA, gn, fc2, ints pn.first⟩]) ∧ Hid (∀ w', Below wc.heap.size wc w' → OwnM w' gi sn (mapF po.slots 0)))
        case first =>
          have N0 := Lib.hid M4.out.drew
          have B0 : Hid (Below w4.heap.size w4 w4.drew) := Lib.hid (below_drewN (Below.refl _ _) 1)
          have s1 : w4.drew.cell? ⟨gb + 1, 2, none⟩ = some (.slice gA gn gc) ∧ w4.drew.cell? ⟨gb, 3, none⟩ = some (.slice sA sn sc) ∧ w4.drew.cell? ⟨gb + 1, 3, none⟩ = some (.slice hA hn hc) := ⟨N0.out.cellK 1 rfl 2, N0.out.cellK 2 rfl 3, N0.out.cellK 1 rfl 3⟩
          clear M4
          refine wp_region_held_drew (S := fun w' => w'.cell? ⟨gb + 1, 2, none⟩ = some (.slice gA gn gc) ∧ w'.cell? ⟨gb, 3, none⟩ = some (.slice sA sn sc) ∧ w'.cell? ⟨gb + 1, 3, none⟩ = some (.slice hA hn hc)) (by kernel_rfl) ?_ (fun hHeld => ?_)
          · exact s1
          clear s1
          generalize w4.drew = w5 at N0 B0 hHeld ⊢
          refine wpAnyH_take (i := 0) (v := ?_) rfl (by kernel_rfl) (by kernel_rfl) (by kernel_rfl) (fun _ _ _ h => h) (Or.inl ⟨by rfl, ?_⟩) (by assumption) ?_
          rotate_left
          · intro w' hSw
            (try dsimp only at hSw)
            go_simp
            try with_reducible rfl
          try simp only [Act.put, List.getElem_toArray, List.getElem_cons_zero, List.setIfInBounds_toArray, List.set_cons_zero, List.set_cons_succ]
          refine wpAnyH_take (i := 1) (v := ?_) rfl (by kernel_rfl) (by kernel_rfl) (by kernel_rfl) (fun _ _ _ h => h) (Or.inl ⟨by rfl, ?_⟩) (by assumption) ?_
          rotate_left
          · intro w' hSw
            (try dsimp only at hSw)
            go_simp
            try with_reducible rfl
          try simp only [Act.put, List.getElem_toArray, List.getElem_cons_zero, List.getElem_cons_succ, List.setIfInBounds_toArray, List.set_cons_zero, List.set_cons_succ]
          refine wpAnyH_take (i := 3) (v := ?_) rfl (by kernel_rfl) (by kernel_rfl) (by kernel_rfl) (fun _ _ _ h => h) (Or.inl ⟨by rfl, ?_⟩) (by assumption) ?_
          rotate_left
          · intro w' hSw
            (try dsimp only at hSw)
            go_simp
            try with_reducible rfl
          try simp only [Act.put, List.getElem_toArray, List.getElem_cons_zero, List.getElem_cons_succ, List.setIfInBounds_toArray, List.set_cons_zero, List.set_cons_succ]
          refine wpAnyH_take (i := 4) (v := ?_) rfl (by kernel_rfl) (by kernel_rfl) (by kernel_rfl) (fun _ _ _ h => h) (Or.inl ⟨by rfl, ?_⟩) (by assumption) ?_
          rotate_left
          · intro w' hSw
            (try dsimp only at hSw)
            go_simp
            try with_reducible rfl
          try simp only [Act.put, List.getElem_toArray, List.getElem_cons_zero, List.getElem_cons_succ, List.setIfInBounds_toArray, List.set_cons_zero, List.set_cons_succ]
          refine wpAnyH_take (i := 5) (v := ?_) rfl (by kernel_rfl) (by kernel_rfl) (by kernel_rfl) (fun _ _ _ h => h) (Or.inl ⟨by rfl, ?_⟩) (by assumption) ?_
          rotate_left
          · intro w' hSw
            (try dsimp only at hSw)
            go_simp
            try with_reducible rfl
          try simp only [Act.put, List.getElem_toArray, List.getElem_cons_zero, List.getElem_cons_succ, List.setIfInBounds_toArray, List.set_cons_zero, List.set_cons_succ]
          refine wpAnyH_take (i := 6) (v := ?_) rfl (by kernel_rfl) (by kernel_rfl) (by kernel_rfl) (fun _ _ _ h => h) (Or.inl ⟨by rfl, ?_⟩) (by assumption) ?_
          rotate_left
          · intro w' hSw
            (try dsimp only at hSw)
            go_simp
            try with_reducible rfl
          try simp only [Act.put, List.getElem_toArray, List.getElem_cons_zero, List.getElem_cons_succ, List.setIfInBounds_toArray, List.set_cons_zero, List.set_cons_succ]
          refine wpAnyH_take (i := 9) (v := ?_) rfl (by kernel_rfl) (by kernel_rfl) (by kernel_rfl) (fun _ _ _ h => h) (Or.inl ⟨by rfl, ?_⟩) (by assumption) ?_
          rotate_left
          · intro w' hSw
            (try dsimp only at hSw)
            go_simp
            try with_reducible rfl
          try simp only [Act.put, List.getElem_toArray, List.getElem_cons_zero, List.getElem_cons_succ, List.setIfInBounds_toArray, List.set_cons_zero, List.set_cons_succ]
          refine wpAnyH_take (i := 10) (v := ?_) rfl (by kernel_rfl) (by kernel_rfl) (by kernel_rfl) (fun _ _ _ h => h) (Or.inl ⟨by rfl, ?_⟩) (by assumption) ?_
          rotate_left
          · intro w' hSw
            (try dsimp only at hSw)
            go_simp
            try with_reducible rfl
          try simp only [Act.put, List.getElem_toArray, List.getElem_cons_zero, List.getElem_cons_succ, List.setIfInBounds_toArray, List.set_cons_zero, List.set_cons_succ]
          refine wpAnyH_take (i := 11) (v := ?_) rfl (by kernel_rfl) (by kernel_rfl) (by kernel_rfl) (fun _ _ _ h => h) (Or.inl ⟨by rfl, ?_⟩) (by assumption) ?_
          rotate_left
          · intro w' hSw
            (try dsimp only at hSw)
            go_simp
            try with_reducible rfl
          try simp only [Act.put, List.getElem_toArray, List.getElem_cons_zero, List.getElem_cons_succ, List.setIfInBounds_toArray, List.set_cons_zero, List.set_cons_succ]
          refine wpAnyH_ready (rs := [2, 14]) (by kernel_rfl) (by simp) ?_
          refine (AllReadyH.cons rfl (fun K hK => ?_) (AllReadyH.cons rfl (fun K hK => ?_) AllReadyH.nil))
          · have HKK := Lib.hid hK
            clear hK
            go_simp
            refine (Clone_any gA gn gc pn.first _ (HU.out.first.below N0.out.bel) (by omega)).mono ?_
            rintro e wz ⟨FA, fc2, rfl, hoz, hbz⟩
            try dsimp only
            have N1 := Lib.hid (N0.out.made hbz hoz)
            have B1 := Lib.hid (B0.out.trans (hbz.mono B0.out.size))
            clear hoz hbz
            refine HKK.out _ _ ⟨N1.out.cellK 1 rfl 2, N1.out.cellK 2 rfl 3, N1.out.cellK 1 rfl 3⟩ (fun hHeld => ?_)
            clear HKK K
            clear N0
            try simp only [Act.put, List.getElem_toArray, List.getElem_cons_zero, List.getElem_cons_succ, List.setIfInBounds_toArray, List.set_cons_zero, List.set_cons_succ]
            refine wpAnyH_ready (rs := [7, 14]) (by kernel_rfl) (by simp) ?_
            refine (AllReadyH.cons rfl (fun K hK => ?_) (AllReadyH.cons rfl (fun K hK => ?_) AllReadyH.nil))
            · have HKK := Lib.hid hK
              clear hK
              go_simp
              refine (index_any hA hn hc pn.slots _ (HU.out.slots.below N1.out.bel) HO.out.2.2.2.2.1 hhb).mono ?_
              rintro e wz ⟨gj, rfl, hgj, hoz, hbz⟩
              try dsimp only
              have N2 := Lib.hid (N1.out.below hbz)
              have B2 := Lib.hid (B1.out.trans (hbz.mono B1.out.size))
              have HJ : Hid (∀ w', Below wz.heap.size wz w' → OwnM w' gj hn (mapF pn.slots 0)) := Lib.hid fun w' hb => own_below hoz hb
              clear hoz hbz hgj
              refine HKK.out _ _ ⟨N2.out.cellK 1 rfl 2, N2.out.cellK 2 rfl 3, N2.out.cellK 1 rfl 3⟩ (fun hHeld => ?_)
              clear HKK K
              clear N1
              try simp only [Act.put, List.getElem_toArray, List.getElem_cons_zero, List.getElem_cons_succ, List.setIfInBounds_toArray, List.set_cons_zero, List.set_cons_succ]
              refine wpAnyH_ready (rs := [8, 14]) (by kernel_rfl) (by simp) ?_
              refine (AllReadyH.cons rfl (fun K hK => ?_) (AllReadyH.cons rfl (fun K hK => ?_) AllReadyH.nil))
              · have HKK := Lib.hid hK
                clear hK
                go_simp
                refine (strange_any sA sn sc po.slots pn.slots gj hn _ (HV.out.slots.below N2.out.bel) HO.out.1.2.2.2.1 HO.out.2.2.2.2.1 hsb (HJ.out _ (Below.refl _ _))).mono ?_
                rintro e wz2 ⟨LA, nL, lc, rfl, mz⟩
                try dsimp only
                have N3 := Lib.hid (N2.out.join mz)
                have B3 := Lib.hid (B2.out.trans (mz.bel.mono B2.out.size))
                clear mz HJ
                refine HKK.out _ _ ⟨N3.out.cellK 1 rfl 2, N3.out.cellK 2 rfl 3, N3.out.cellK 1 rfl 3⟩ (fun hHeld => ?_)
                clear HKK K
                clear N2
                try simp only [Act.put, List.getElem_toArray, List.getElem_cons_zero, List.getElem_cons_succ, List.setIfInBounds_toArray, List.set_cons_zero, List.set_cons_succ]
                refine wpAnyH_ready (rs := [12, 14]) (by kernel_rfl) (by simp) ?_
                refine (AllReadyH.cons rfl (fun K hK => ?_) (AllReadyH.cons rfl (fun K hK => ?_) AllReadyH.nil))
                · have HKK := Lib.hid hK
                  clear hK
                  go_simp
                  refine (strange_any hA hn hc pn.slots po.slots gi sn _ (HU.out.slots.below N3.out.bel) HO.out.2.2.2.2.1 HO.out.1.2.2.2.1 hhb (HOW.out _ B3.out)).mono ?_
                  rintro e wz3 ⟨SA, nS, sc2, rfl, mz⟩
                  try dsimp only
                  have N4 := Lib.hid (N3.out.join mz)
                  have B4 := Lib.hid (B3.out.trans (mz.bel.mono B3.out.size))
                  clear mz
                  refine HKK.out _ _ ⟨N4.out.cellK 1 rfl 2, N4.out.cellK 2 rfl 3, N4.out.cellK 1 rfl 3⟩ (fun hHeld => ?_)
                  clear HKK K
                  clear N3
                  try simp only [Act.put, List.getElem_toArray, List.getElem_cons_zero, List.getElem_cons_succ, List.setIfInBounds_toArray, List.set_cons_zero, List.set_cons_succ]
                  refine wpAnyH_take (i := 13) (v := ?_) rfl (by kernel_rfl) (by kernel_rfl) (by kernel_rfl) (fun _ _ _ h => h) (Or.inl ⟨by rfl, ?_⟩) (by assumption) ?_
                  rotate_left
                  · intro w' hSw
                    (try dsimp only at hSw)
                    go_simp
                    try with_reducible rfl
                  try simp only [Act.put, List.getElem_toArray, List.getElem_cons_zero, List.getElem_cons_succ, List.setIfInBounds_toArray, List.set_cons_zero, List.set_cons_succ]
                  refine wpAnyH_ready (rs := [14]) (by kernel_rfl) (by simp) ?_
                  refine (AllReadyH.cons rfl (fun K hK => ?_) AllReadyH.nil)
                  · have HKK := Lib.hid hK
                    clear hK
                    go_simp
                    have N5 := Lib.hid (N4.out.alloc 30 #[.slice none 0 0, .slice none 0 0, .slice none 0 0])
                    have B5 := Lib.hid (B4.out.alloc B4.out.size (.cells #[.slice none 0 0, .slice none 0 0, .slice none 0 0] 30))
                    have GQ := Lib.hid B4.out.size
                    refine HKK.out _ _ ⟨N5.out.cellK 2 rfl 2, N5.out.cellK 3 rfl 3, N5.out.cellK 2 rfl 3⟩ (fun hHeld => ?_)
                    clear HKK K
                    try simp only [Act.put, List.getElem_toArray, List.getElem_cons_zero, List.getElem_cons_succ, List.setIfInBounds_toArray, List.set_cons_zero, List.set_cons_succ]
                    refine wpAnyH_ready (rs := [15]) (by kernel_rfl) (by simp) ?_
                    refine (AllReadyH.cons rfl (fun K hK => ?_) AllReadyH.nil)
                    · have HKK := Lib.hid hK
                      clear hK
                      have bz := N5.out.cellK 0 rfl
                      have fz := N5.out.frozenK 0 rfl
                      have kz := (N5.out.ltK 0 rfl).2
                      have gz := (N5.out.ltK 0 rfl).1
                      go_simp
                      have N6 := Lib.hid (N4.out.alloc 30 #[.slice FA gn fc2, .slice LA nL lc, .slice SA nS sc2])
                      have B6 := Lib.hid (B4.out.alloc B4.out.size (.cells #[.slice FA gn fc2, .slice LA nL lc, .slice SA nS sc2] 30))
                      clear bz fz
                      refine HKK.out _ _ ⟨N6.out.cellK 2 rfl 2, N6.out.cellK 3 rfl 3, N6.out.cellK 2 rfl 3⟩ (fun hHeld => ?_)
                      clear HKK K
                      try simp only [Act.put, List.getElem_toArray, List.getElem_cons_zero, List.getElem_cons_succ, List.setIfInBounds_toArray, List.set_cons_zero, List.set_cons_succ]
                      refine wpAnyH_done (by kernel_rfl) ?_ _
                      go_wp2
                      go_meet
                      exact ⟨_, _, _, _, _, _, _, _, _, rfl, N6, Lib.hid fun w' hb => HOW.out _ (B6.out.trans (hb.mono B6.out.size))⟩
                · have HKK := Lib.hid hK
                  clear hK
                  go_simp
                  have N4 := Lib.hid (N3.out.alloc 30 #[.slice none 0 0, .slice none 0 0, .slice none 0 0])
                  have B4 := Lib.hid (B3.out.alloc B3.out.size (.cells #[.slice none 0 0, .slice none 0 0, .slice none 0 0] 30))
                  have GQ := Lib.hid B3.out.size
                  refine HKK.out _ _ ⟨N4.out.cellK 2 rfl 2, N4.out.cellK 3 rfl 3, N4.out.cellK 2 rfl 3⟩ (fun hHeld => ?_)
                  clear HKK K
                  clear N3
                  try simp only [Act.put, List.getElem_toArray, List.getElem_cons_zero, List.getElem_cons_succ, List.setIfInBounds_toArray, List.set_cons_zero, List.set_cons_succ]
                  refine wpAnyH_ready (rs := [12]) (by kernel_rfl) (by simp) ?_
                  refine (AllReadyH.cons rfl (fun K hK => ?_) AllReadyH.nil)
                  · have HKK := Lib.hid hK
                    clear hK
                    go_simp
                    refine (strange_any hA hn hc pn.slots po.slots gi sn _ (HU.out.slots.below N4.out.bel) HO.out.2.2.2.2.1 HO.out.1.2.2.2.1 hhb (HOW.out _ B4.out)).mono ?_
                    rintro e wz3 ⟨SA, nS, sc2, rfl, mz⟩
                    try dsimp only
                    have N5 := Lib.hid (N4.out.join mz)
                    have B5 := Lib.hid (B4.out.trans (mz.bel.mono B4.out.size))
                    clear mz
                    refine HKK.out _ _ ⟨N5.out.cellK 2 rfl 2, N5.out.cellK 3 rfl 3, N5.out.cellK 2 rfl 3⟩ (fun hHeld => ?_)
                    clear HKK K
                    clear N4
                    try simp only [Act.put, List.getElem_toArray, List.getElem_cons_zero, List.getElem_cons_succ, List.setIfInBounds_toArray, List.set_cons_zero, List.set_cons_succ]
                    refine wpAnyH_take (i := 13) (v := ?_) rfl (by kernel_rfl) (by kernel_rfl) (by kernel_rfl) (fun _ _ _ h => h) (Or.inl ⟨by rfl, ?_⟩) (by assumption) ?_
                    rotate_left
                    · intro w' hSw
                      (try dsimp only at hSw)
                      go_simp
                      try with_reducible rfl
                    try simp only [Act.put, List.getElem_toArray, List.getElem_cons_zero, List.getElem_cons_succ, List.setIfInBounds_toArray, List.set_cons_zero, List.set_cons_succ]
                    refine wpAnyH_ready (rs := [15]) (by kernel_rfl) (by simp) ?_
                    refine (AllReadyH.cons rfl (fun K hK => ?_) AllReadyH.nil)
                    · have HKK := Lib.hid hK
                      clear hK
                      have bz := N5.out.cellK 0 rfl
                      have fz := N5.out.frozenK 0 rfl
                      have kz := (N5.out.ltK 0 rfl).2
                      have gz := (N5.out.ltK 0 rfl).1
                      go_simp
                      have N6 := Lib.hid (((N5.out.set (i := 0) (.slice FA gn fc2)).set (i := 1) (.slice LA nL lc)).set (i := 2) (.slice SA nS sc2))
                      have B6 := Lib.hid (((Below.setCell B5.out (p := ⟨_, 0, none⟩) GQ.out (.slice FA gn fc2)).setCell (p := ⟨_, 1, none⟩) GQ.out (.slice LA nL lc)).setCell (p := ⟨_, 2, none⟩) GQ.out (.slice SA nS sc2))
                      clear bz fz
                      refine HKK.out _ _ ⟨N6.out.cellK 2 rfl 2, N6.out.cellK 3 rfl 3, N6.out.cellK 2 rfl 3⟩ (fun hHeld => ?_)
                      clear HKK K
                      clear N5
                      try simp only [Act.put, List.getElem_toArray, List.getElem_cons_zero, List.getElem_cons_succ, List.setIfInBounds_toArray, List.set_cons_zero, List.set_cons_succ]
                      refine wpAnyH_done (by kernel_rfl) ?_ _
                      go_wp2
                      go_meet
                      exact ⟨_, _, _, _, _, _, _, _, _, rfl, N6, Lib.hid fun w' hb => HOW.out _ (B6.out.trans (hb.mono B6.out.size))⟩
              · have HKK := Lib.hid hK
                clear hK
                go_simp
                have N3 := Lib.hid (N2.out.alloc 30 #[.slice none 0 0, .slice none 0 0, .slice none 0 0])
                have B3 := Lib.hid (B2.out.alloc B2.out.size (.cells #[.slice none 0 0, .slice none 0 0, .slice none 0 0] 30))
                have GQ := Lib.hid B2.out.size
                refine HKK.out _ _ ⟨N3.out.cellK 2 rfl 2, N3.out.cellK 3 rfl 3, N3.out.cellK 2 rfl 3⟩ (fun hHeld => ?_)
                clear HKK K
                clear N2
                try simp only [Act.put, List.getElem_toArray, List.getElem_cons_zero, List.getElem_cons_succ, List.setIfInBounds_toArray, List.set_cons_zero, List.set_cons_succ]
                refine wpAnyH_ready (rs := [8]) (by kernel_rfl) (by simp) ?_
                refine (AllReadyH.cons rfl (fun K hK => ?_) AllReadyH.nil)
                · have HKK := Lib.hid hK
                  clear hK
                  go_simp
                  refine (strange_any sA sn sc po.slots pn.slots gj hn _ (HV.out.slots.below N3.out.bel) HO.out.1.2.2.2.1 HO.out.2.2.2.2.1 hsb (HJ.out _ (below_alloc _))).mono ?_
                  rintro e wz2 ⟨LA, nL, lc, rfl, mz⟩
                  try dsimp only
                  have N4 := Lib.hid (N3.out.join mz)
                  have B4 := Lib.hid (B3.out.trans (mz.bel.mono B3.out.size))
                  clear mz HJ
                  refine HKK.out _ _ ⟨N4.out.cellK 2 rfl 2, N4.out.cellK 3 rfl 3, N4.out.cellK 2 rfl 3⟩ (fun hHeld => ?_)
                  clear HKK K
                  clear N3
                  try simp only [Act.put, List.getElem_toArray, List.getElem_cons_zero, List.getElem_cons_succ, List.setIfInBounds_toArray, List.set_cons_zero, List.set_cons_succ]
                  refine wpAnyH_ready (rs := [12]) (by kernel_rfl) (by simp) ?_
                  refine (AllReadyH.cons rfl (fun K hK => ?_) AllReadyH.nil)
                  · have HKK := Lib.hid hK
                    clear hK
                    go_simp
                    refine (strange_any hA hn hc pn.slots po.slots gi sn _ (HU.out.slots.below N4.out.bel) HO.out.2.2.2.2.1 HO.out.1.2.2.2.1 hhb (HOW.out _ B4.out)).mono ?_
                    rintro e wz3 ⟨SA, nS, sc2, rfl, mz⟩
                    try dsimp only
                    have N5 := Lib.hid (N4.out.join mz)
                    have B5 := Lib.hid (B4.out.trans (mz.bel.mono B4.out.size))
                    clear mz
                    refine HKK.out _ _ ⟨N5.out.cellK 2 rfl 2, N5.out.cellK 3 rfl 3, N5.out.cellK 2 rfl 3⟩ (fun hHeld => ?_)
                    clear HKK K
                    clear N4
                    try simp only [Act.put, List.getElem_toArray, List.getElem_cons_zero, List.getElem_cons_succ, List.setIfInBounds_toArray, List.set_cons_zero, List.set_cons_succ]
                    refine wpAnyH_take (i := 13) (v := ?_) rfl (by kernel_rfl) (by kernel_rfl) (by kernel_rfl) (fun _ _ _ h => h) (Or.inl ⟨by rfl, ?_⟩) (by assumption) ?_
                    rotate_left
                    · intro w' hSw
                      (try dsimp only at hSw)
                      go_simp
                      try with_reducible rfl
                    try simp only [Act.put, List.getElem_toArray, List.getElem_cons_zero, List.getElem_cons_succ, List.setIfInBounds_toArray, List.set_cons_zero, List.set_cons_succ]
                    refine wpAnyH_ready (rs := [15]) (by kernel_rfl) (by simp) ?_
                    refine (AllReadyH.cons rfl (fun K hK => ?_) AllReadyH.nil)
                    · have HKK := Lib.hid hK
                      clear hK
                      have bz := N5.out.cellK 0 rfl
                      have fz := N5.out.frozenK 0 rfl
                      have kz := (N5.out.ltK 0 rfl).2
                      have gz := (N5.out.ltK 0 rfl).1
                      go_simp
                      have N6 := Lib.hid (((N5.out.set (i := 0) (.slice FA gn fc2)).set (i := 1) (.slice LA nL lc)).set (i := 2) (.slice SA nS sc2))
                      have B6 := Lib.hid (((Below.setCell B5.out (p := ⟨_, 0, none⟩) GQ.out (.slice FA gn fc2)).setCell (p := ⟨_, 1, none⟩) GQ.out (.slice LA nL lc)).setCell (p := ⟨_, 2, none⟩) GQ.out (.slice SA nS sc2))
                      clear bz fz
                      refine HKK.out _ _ ⟨N6.out.cellK 2 rfl 2, N6.out.cellK 3 rfl 3, N6.out.cellK 2 rfl 3⟩ (fun hHeld => ?_)
                      clear HKK K
                      clear N5
                      try simp only [Act.put, List.getElem_toArray, List.getElem_cons_zero, List.getElem_cons_succ, List.setIfInBounds_toArray, List.set_cons_zero, List.set_cons_succ]
                      refine wpAnyH_done (by kernel_rfl) ?_ _
                      go_wp2
                      go_meet
                      exact ⟨_, _, _, _, _, _, _, _, _, rfl, N6, Lib.hid fun w' hb => HOW.out _ (B6.out.trans (hb.mono B6.out.size))⟩
            · have HKK := Lib.hid hK
              clear hK
              go_simp
              have N2 := Lib.hid (N1.out.alloc 30 #[.slice none 0 0, .slice none 0 0, .slice none 0 0])
              have B2 := Lib.hid (B1.out.alloc B1.out.size (.cells #[.slice none 0 0, .slice none 0 0, .slice none 0 0] 30))
              have GQ := Lib.hid B1.out.size
              refine HKK.out _ _ ⟨N2.out.cellK 2 rfl 2, N2.out.cellK 3 rfl 3, N2.out.cellK 2 rfl 3⟩ (fun hHeld => ?_)
              clear HKK K
              clear N1
              try simp only [Act.put, List.getElem_toArray, List.getElem_cons_zero, List.getElem_cons_succ, List.setIfInBounds_toArray, List.set_cons_zero, List.set_cons_succ]
              refine wpAnyH_ready (rs := [7]) (by kernel_rfl) (by simp) ?_
              refine (AllReadyH.cons rfl (fun K hK => ?_) AllReadyH.nil)
              · have HKK := Lib.hid hK
                clear hK
                go_simp
                refine (index_any hA hn hc pn.slots _ (HU.out.slots.below N2.out.bel) HO.out.2.2.2.2.1 hhb).mono ?_
                rintro e wz ⟨gj, rfl, hgj, hoz, hbz⟩
                try dsimp only
                have N3 := Lib.hid (N2.out.below hbz)
                have B3 := Lib.hid (B2.out.trans (hbz.mono B2.out.size))
                have HJ : Hid (∀ w', Below wz.heap.size wz w' → OwnM w' gj hn (mapF pn.slots 0)) := Lib.hid fun w' hb => own_below hoz hb
                clear hoz hbz hgj
                refine HKK.out _ _ ⟨N3.out.cellK 2 rfl 2, N3.out.cellK 3 rfl 3, N3.out.cellK 2 rfl 3⟩ (fun hHeld => ?_)
                clear HKK K
                clear N2
                try simp only [Act.put, List.getElem_toArray, List.getElem_cons_zero, List.getElem_cons_succ, List.setIfInBounds_toArray, List.set_cons_zero, List.set_cons_succ]
                refine wpAnyH_ready (rs := [8]) (by kernel_rfl) (by simp) ?_
                refine (AllReadyH.cons rfl (fun K hK => ?_) AllReadyH.nil)
                · have HKK := Lib.hid hK
                  clear hK
                  go_simp
                  refine (strange_any sA sn sc po.slots pn.slots gj hn _ (HV.out.slots.below N3.out.bel) HO.out.1.2.2.2.1 HO.out.2.2.2.2.1 hsb (HJ.out _ (Below.refl _ _))).mono ?_
                  rintro e wz2 ⟨LA, nL, lc, rfl, mz⟩
                  try dsimp only
                  have N4 := Lib.hid (N3.out.join mz)
                  have B4 := Lib.hid (B3.out.trans (mz.bel.mono B3.out.size))
                  clear mz HJ
                  refine HKK.out _ _ ⟨N4.out.cellK 2 rfl 2, N4.out.cellK 3 rfl 3, N4.out.cellK 2 rfl 3⟩ (fun hHeld => ?_)
                  clear HKK K
                  clear N3
                  try simp only [Act.put, List.getElem_toArray, List.getElem_cons_zero, List.getElem_cons_succ, List.setIfInBounds_toArray, List.set_cons_zero, List.set_cons_succ]
                  refine wpAnyH_ready (rs := [12]) (by kernel_rfl) (by simp) ?_
                  refine (AllReadyH.cons rfl (fun K hK => ?_) AllReadyH.nil)
                  · have HKK := Lib.hid hK
                    clear hK
                    go_simp
                    refine (strange_any hA hn hc pn.slots po.slots gi sn _ (HU.out.slots.below N4.out.bel) HO.out.2.2.2.2.1 HO.out.1.2.2.2.1 hhb (HOW.out _ B4.out)).mono ?_
                    rintro e wz3 ⟨SA, nS, sc2, rfl, mz⟩
                    try dsimp only
                    have N5 := Lib.hid (N4.out.join mz)
                    have B5 := Lib.hid (B4.out.trans (mz.bel.mono B4.out.size))
                    clear mz
                    refine HKK.out _ _ ⟨N5.out.cellK 2 rfl 2, N5.out.cellK 3 rfl 3, N5.out.cellK 2 rfl 3⟩ (fun hHeld => ?_)
                    clear HKK K
                    clear N4
                    try simp only [Act.put, List.getElem_toArray, List.getElem_cons_zero, List.getElem_cons_succ, List.setIfInBounds_toArray, List.set_cons_zero, List.set_cons_succ]
                    refine wpAnyH_take (i := 13) (v := ?_) rfl (by kernel_rfl) (by kernel_rfl) (by kernel_rfl) (fun _ _ _ h => h) (Or.inl ⟨by rfl, ?_⟩) (by assumption) ?_
                    rotate_left
                    · intro w' hSw
                      (try dsimp only at hSw)
                      go_simp
                      try with_reducible rfl
                    try simp only [Act.put, List.getElem_toArray, List.getElem_cons_zero, List.getElem_cons_succ, List.setIfInBounds_toArray, List.set_cons_zero, List.set_cons_succ]
                    refine wpAnyH_ready (rs := [15]) (by kernel_rfl) (by simp) ?_
                    refine (AllReadyH.cons rfl (fun K hK => ?_) AllReadyH.nil)
                    · have HKK := Lib.hid hK
                      clear hK
                      have bz := N5.out.cellK 0 rfl
                      have fz := N5.out.frozenK 0 rfl
                      have kz := (N5.out.ltK 0 rfl).2
                      have gz := (N5.out.ltK 0 rfl).1
                      go_simp
                      have N6 := Lib.hid (((N5.out.set (i := 0) (.slice FA gn fc2)).set (i := 1) (.slice LA nL lc)).set (i := 2) (.slice SA nS sc2))
                      have B6 := Lib.hid (((Below.setCell B5.out (p := ⟨_, 0, none⟩) GQ.out (.slice FA gn fc2)).setCell (p := ⟨_, 1, none⟩) GQ.out (.slice LA nL lc)).setCell (p := ⟨_, 2, none⟩) GQ.out (.slice SA nS sc2))
                      clear bz fz
                      refine HKK.out _ _ ⟨N6.out.cellK 2 rfl 2, N6.out.cellK 3 rfl 3, N6.out.cellK 2 rfl 3⟩ (fun hHeld => ?_)
                      clear HKK K
                      clear N5
                      try simp only [Act.put, List.getElem_toArray, List.getElem_cons_zero, List.getElem_cons_succ, List.setIfInBounds_toArray, List.set_cons_zero, List.set_cons_succ]
                      refine wpAnyH_done (by kernel_rfl) ?_ _
                      go_wp2
                      go_meet
                      exact ⟨_, _, _, _, _, _, _, _, _, rfl, N6, Lib.hid fun w' hb => HOW.out _ (B6.out.trans (hb.mono B6.out.size))⟩
          · have HKK := Lib.hid hK
            clear hK
            go_simp
            have N1 := Lib.hid (N0.out.alloc 30 #[.slice none 0 0, .slice none 0 0, .slice none 0 0])
            have B1 := Lib.hid (B0.out.alloc B0.out.size (.cells #[.slice none 0 0, .slice none 0 0, .slice none 0 0] 30))
            have GQ := Lib.hid B0.out.size
            refine HKK.out _ _ ⟨N1.out.cellK 2 rfl 2, N1.out.cellK 3 rfl 3, N1.out.cellK 2 rfl 3⟩ (fun hHeld => ?_)
            clear HKK K
            clear N0
            try simp only [Act.put, List.getElem_toArray, List.getElem_cons_zero, List.getElem_cons_succ, List.setIfInBounds_toArray, List.set_cons_zero, List.set_cons_succ]
            refine wpAnyH_ready (rs := [2]) (by kernel_rfl) (by simp) ?_
            refine (AllReadyH.cons rfl (fun K hK => ?_) AllReadyH.nil)
            · have HKK := Lib.hid hK
              clear hK
              go_simp
              refine (Clone_any gA gn gc pn.first _ (HU.out.first.below N1.out.bel) (by omega)).mono ?_
              rintro e wz ⟨FA, fc2, rfl, hoz, hbz⟩
              try dsimp only
              have N2 := Lib.hid (N1.out.made hbz hoz)
              have B2 := Lib.hid (B1.out.trans (hbz.mono B1.out.size))
              clear hoz hbz
              refine HKK.out _ _ ⟨N2.out.cellK 2 rfl 2, N2.out.cellK 3 rfl 3, N2.out.cellK 2 rfl 3⟩ (fun hHeld => ?_)
              clear HKK K
              clear N1
              try simp only [Act.put, List.getElem_toArray, List.getElem_cons_zero, List.getElem_cons_succ, List.setIfInBounds_toArray, List.set_cons_zero, List.set_cons_succ]
              refine wpAnyH_ready (rs := [7]) (by kernel_rfl) (by simp) ?_
              refine (AllReadyH.cons rfl (fun K hK => ?_) AllReadyH.nil)
              · have HKK := Lib.hid hK
                clear hK
                go_simp
                refine (index_any hA hn hc pn.slots _ (HU.out.slots.below N2.out.bel) HO.out.2.2.2.2.1 hhb).mono ?_
                rintro e wz ⟨gj, rfl, hgj, hoz, hbz⟩
                try dsimp only
                have N3 := Lib.hid (N2.out.below hbz)
                have B3 := Lib.hid (B2.out.trans (hbz.mono B2.out.size))
                have HJ : Hid (∀ w', Below wz.heap.size wz w' → OwnM w' gj hn (mapF pn.slots 0)) := Lib.hid fun w' hb => own_below hoz hb
                clear hoz hbz hgj
                refine HKK.out _ _ ⟨N3.out.cellK 2 rfl 2, N3.out.cellK 3 rfl 3, N3.out.cellK 2 rfl 3⟩ (fun hHeld => ?_)
                clear HKK K
                clear N2
                try simp only [Act.put, List.getElem_toArray, List.getElem_cons_zero, List.getElem_cons_succ, List.setIfInBounds_toArray, List.set_cons_zero, List.set_cons_succ]
                refine wpAnyH_ready (rs := [8]) (by kernel_rfl) (by simp) ?_
                refine (AllReadyH.cons rfl (fun K hK => ?_) AllReadyH.nil)
                · have HKK := Lib.hid hK
                  clear hK
                  go_simp
                  refine (strange_any sA sn sc po.slots pn.slots gj hn _ (HV.out.slots.below N3.out.bel) HO.out.1.2.2.2.1 HO.out.2.2.2.2.1 hsb (HJ.out _ (Below.refl _ _))).mono ?_
                  rintro e wz2 ⟨LA, nL, lc, rfl, mz⟩
                  try dsimp only
                  have N4 := Lib.hid (N3.out.join mz)
                  have B4 := Lib.hid (B3.out.trans (mz.bel.mono B3.out.size))
                  clear mz HJ
                  refine HKK.out _ _ ⟨N4.out.cellK 2 rfl 2, N4.out.cellK 3 rfl 3, N4.out.cellK 2 rfl 3⟩ (fun hHeld => ?_)
                  clear HKK K
                  clear N3
                  try simp only [Act.put, List.getElem_toArray, List.getElem_cons_zero, List.getElem_cons_succ, List.setIfInBounds_toArray, List.set_cons_zero, List.set_cons_succ]
                  refine wpAnyH_ready (rs := [12]) (by kernel_rfl) (by simp) ?_
                  refine (AllReadyH.cons rfl (fun K hK => ?_) AllReadyH.nil)
                  · have HKK := Lib.hid hK
                    clear hK
                    go_simp
                    refine (strange_any hA hn hc pn.slots po.slots gi sn _ (HU.out.slots.below N4.out.bel) HO.out.2.2.2.2.1 HO.out.1.2.2.2.1 hhb (HOW.out _ B4.out)).mono ?_
                    rintro e wz3 ⟨SA, nS, sc2, rfl, mz⟩
                    try dsimp only
                    have N5 := Lib.hid (N4.out.join mz)
                    have B5 := Lib.hid (B4.out.trans (mz.bel.mono B4.out.size))
                    clear mz
                    refine HKK.out _ _ ⟨N5.out.cellK 2 rfl 2, N5.out.cellK 3 rfl 3, N5.out.cellK 2 rfl 3⟩ (fun hHeld => ?_)
                    clear HKK K
                    clear N4
                    try simp only [Act.put, List.getElem_toArray, List.getElem_cons_zero, List.getElem_cons_succ, List.setIfInBounds_toArray, List.set_cons_zero, List.set_cons_succ]
                    refine wpAnyH_take (i := 13) (v := ?_) rfl (by kernel_rfl) (by kernel_rfl) (by kernel_rfl) (fun _ _ _ h => h) (Or.inl ⟨by rfl, ?_⟩) (by assumption) ?_
                    rotate_left
                    · intro w' hSw
                      (try dsimp only at hSw)
                      go_simp
                      try with_reducible rfl
                    try simp only [Act.put, List.getElem_toArray, List.getElem_cons_zero, List.getElem_cons_succ, List.setIfInBounds_toArray, List.set_cons_zero, List.set_cons_succ]
                    refine wpAnyH_ready (rs := [15]) (by kernel_rfl) (by simp) ?_
                    refine (AllReadyH.cons rfl (fun K hK => ?_) AllReadyH.nil)
                    · have HKK := Lib.hid hK
                      clear hK
                      have bz := N5.out.cellK 0 rfl
                      have fz := N5.out.frozenK 0 rfl
                      have kz := (N5.out.ltK 0 rfl).2
                      have gz := (N5.out.ltK 0 rfl).1
                      go_simp
                      have N6 := Lib.hid (((N5.out.set (i := 0) (.slice FA gn fc2)).set (i := 1) (.slice LA nL lc)).set (i := 2) (.slice SA nS sc2))
                      have B6 := Lib.hid (((Below.setCell B5.out (p := ⟨_, 0, none⟩) GQ.out (.slice FA gn fc2)).setCell (p := ⟨_, 1, none⟩) GQ.out (.slice LA nL lc)).setCell (p := ⟨_, 2, none⟩) GQ.out (.slice SA nS sc2))
                      clear bz fz
                      refine HKK.out _ _ ⟨N6.out.cellK 2 rfl 2, N6.out.cellK 3 rfl 3, N6.out.cellK 2 rfl 3⟩ (fun hHeld => ?_)
                      clear HKK K
                      clear N5
                      try simp only [Act.put, List.getElem_toArray, List.getElem_cons_zero, List.getElem_cons_succ, List.setIfInBounds_toArray, List.set_cons_zero, List.set_cons_succ]
                      refine wpAnyH_done (by kernel_rfl) ?_ _
                      go_wp2
                      go_meet
                      exact ⟨_, _, _, _, _, _, _, _, _, rfl, N6, Lib.hid fun w' hb => HOW.out _ (B6.out.trans (hb.mono B6.out.size))⟩
        case rest =>
          clear M4 HOW
          obtain ⟨gq, FA, fc2, LA, lc, nL, SA, sc2, nS, rfl, M5, HOW⟩ := hcut
          have p3 : wc.cell? ⟨gb + 1, 3, none⟩ = some (.slice hA hn hc) := M5.out.cellK 2 rfl 3
          have hL1 := (M5.out.shapeO 1 rfl).2.2
          have hS1 := (M5.out.shapeO 0 rfl).2.2
          go_upto_region 9 with fail
          go_wp2
          clear p3
          have HB := Lib.hid (Below.refl wc.heap.size wc)
          go_loopw [11, 12, 13, 14, 53] (fun _ _ _ _ i wr => ∃ k : Nat, k ≤ hn ∧ i = .int .i64 k ∧ Hid (Below wc.heap.size wc wc) ∧ Hid (Mem w wr [⟨gq, 30, #[.slice FA gn fc2, .slice LA nL lc, .slice SA nS sc2]⟩, ⟨gb + 1 + 1, 30, #[.slice none 0 0, .slice none 0 0, .slice none 0 0]⟩, ⟨gb + 1, 27, #[.int .i64 uk, .string uname, .slice gA gn gc, .slice hA hn hc, .slice iA inn ic]⟩, ⟨gb, 27, #[.int .i64 vk, .string vname, .slice fA fn fc, .slice sA sn sc, .slice tA tn tc]⟩] [⟨9, 1, SA, nS, sc2, strs (strangeF pn.slots po.slots)⟩, ⟨9, 1, LA, nL, lc, strs (strangeF po.slots pn.slots)⟩, ⟨3, 1, FA, gn, fc2, ints (carryF po.slots frame pn.first (pn.slots.take k))⟩]) ∧ Hid (OwnM wr gi sn (mapF po.slots 0))) (fun _ _ _ _ i _ => hn - (intOf i).toNat)
          case atStart => exact ⟨0, Nat.zero_le _, rfl, HB, by simpa [carryF] using M5, Lib.hid (HOW.out _ (Below.refl _ _))⟩
          case round =>
            clear HB M5 HOW
            obtain ⟨k, hk, rfl, HB, M5, HOW⟩ := hrel
            by_cases hlt : k < hn
            · obtain ⟨b, o, s, rfl, hs, hbl, c0, c1, c2, c3, c4, c5⟩ := slot_at (HU.out.slots.below M5.out.bel) hlt
              have hk0 : (0 : Int) ≤ (k : Int) := by omega
              have hkn : (k : Int) < (hn : Int) := by omega
              have hsk := HO.out.2.2.2.2.1 s (List.mem_of_getElem? hs)
              have hbnd : reachBytes ≤ maxLen := by decide
              have hkey := key_of s (Nat.le_trans hsk.1 hbnd) hsk.2.1 hsk.2.2.2.1
              have HAT := Lib.hid (fun z => map_at hsk z po.slots 0 HO.out.1.2.2.2.1)
              have hhas := map_has hsk po.slots 0 HO.out.1.2.2.2.1
              have HCS := Lib.hid (carryF_snoc po.slots frame pn.first pn.slots k s hs)
              have HKEY := Lib.hid hkey
              have HHAS := Lib.hid hhas
              have HSK := Lib.hid hsk
              have HSS := Lib.hid hs
              clear hs hsk hkey hhas
              go_upto_region 12 with fail
              have M6 := Lib.hid (M5.out.alloc 50 (slC s))
              have HOW6 : Hid (OwnM (wr.alloc (.cells (slC s) 50)) gi sn (mapF po.slots 0)) := Lib.hid (HOW.out.alloc _)
              clear M5 HOW hbl c0 c1 c2 c3 c4 c5
              generalize World.alloc _ _ = w6 at M6 HOW6 ⊢
              generalize wr.heap.size = gs at M6 ⊢
              have y0 : w6.cell? ⟨gs, 0, none⟩ = some (.string s.path) := M6.out.cellK 0 rfl 0
              have y1 : w6.cell? ⟨gs, 1, none⟩ = some (.int .i64 s.kind) := M6.out.cellK 0 rfl 1
              have y2 : w6.cell? ⟨gs, 2, none⟩ = some (.int .i64 s.at_) := M6.out.cellK 0 rfl 2
              have y3 : w6.cell? ⟨gs, 3, none⟩ = some (.int .i64 s.len) := M6.out.cellK 0 rfl 3
              have y4 : w6.cell? ⟨gs, 4, none⟩ = some (.bool s.keep) := M6.out.cellK 0 rfl 4
              have y5 : w6.cell? ⟨gs, 5, none⟩ = some (.int .i64 s.role) := M6.out.cellK 0 rfl 5
              go_wp2_with fail
              refine (keyOf_any s _).mono ?_
              rintro e w7 ⟨rfl, hb7⟩
              have M7 := Lib.hid (M6.out.below hb7)
              have hown7 : OwnM w7 gi sn (mapF po.slots 0) := own_below HOW6.out hb7
              clear hb7 M6 HOW6 y0 y1 y2 y3 y4 y5
              obtain ⟨H, hH⟩ : ∃ H, (knownF po.slots s).isSome = H := ⟨_, rfl⟩
              have HH := Lib.hid (HHAS.out.trans hH)
              have HX := Lib.hid hH
              clear hH HHAS
              go_upto_region 13 with (at_lookup; refine wpList_lookup_own_ok_int _ rfl _ _ 55 rfl 60 3 .i64 lawK Try.underlying55 Try.underlying3 (zeroI _) gi sn _ rfl hown7 _ _ rfl HKEY.out ?_; intro cc hat hwc; rw [HH.out])
              have HOW7 := Lib.hid hown7
              have hat2 := (HAT.out _).symm.trans hat
              have HA2 := Lib.hid hat2
              clear hat hwc hown7 HH HAT hat2
              cases H with
              | false =>
                have e : carryF po.slots frame pn.first (pn.slots.take (k + 1)) = carryF po.slots frame pn.first (pn.slots.take k) := by
                  rw [HCS.out]
                  unfold carry1
                  cases hk : knownF po.slots s with
                  | none => rfl
                  | some j => have := HX.out; rw [hk] at this; cases this
                rw [← e] at M7
                have M8 := Lib.hid (M7.out.delK 0)
                clear e M7
                go_wp2
                go_roundw
                case rel => exact ⟨k + 1, by omega, by go_num, HB, M8, HOW7⟩
                case measure => simp [intOf]; omega
              | true =>
                obtain ⟨k0, hk0'⟩ : ∃ k0, knownF po.slots s = some k0 := Option.isSome_iff_exists.1 HX.out
                obtain ⟨t, ht, hal⟩ := known_some hk0'
                have hcc : cc = (k0 : Int) := by
                  have h := HA2.out
                  rw [hk0'] at h
                  simp only [Nat.zero_add] at h
                  injection h with h
                  injection h with _ h
                  exact h.symm
                subst hcc
                have hsl := words_fit (n := fn) (s := t) (List.all_eq_true.1 (by have h := HC.out; simp only [carrB, Bool.and_eq_true] at h; rw [HQ.out.1] at h; exact h.2) t (List.mem_of_getElem? ht))
                have hsp := slot_parts (n := fn) (s := t) (List.all_eq_true.1 (by have h := HC.out; simp only [carrB, Bool.and_eq_true] at h; rw [HQ.out.1] at h; exact h.2) t (List.mem_of_getElem? ht))
                have hnl := words_fit (n := gn) (s := s) (List.all_eq_true.1 (by have h := HCN.out; simp only [carrB, Bool.and_eq_true] at h; rw [HQ.out.2.2.1] at h; exact h.2) s (List.mem_of_getElem? HSS.out))
                have hnp := slot_parts (n := gn) (s := s) (List.all_eq_true.1 (by have h := HCN.out; simp only [carrB, Bool.and_eq_true] at h; rw [HQ.out.2.2.1] at h; exact h.2) s (List.mem_of_getElem? HSS.out))
                rw [words_len hal] at hsl
                have hk0n : k0 < sn := by have := (List.getElem?_eq_some_iff.1 ht).1; rw [HQ.out.2.1] at this; exact this
                obtain ⟨b2, o2, t', rfl, ht', hbl2, d0, d1, d2, d3, d4, d5⟩ := slot_at (HV.out.slots.below M7.out.bel) hk0n
                obtain rfl : t = t' := by rw [ht] at ht'; injection ht'
                have HT := Lib.hid (And.intro hk0' (And.intro ht hal))
                have q3 : w7.cell? ⟨gb, 3, none⟩ = some (.slice (some ⟨b2, o2, none⟩) sn sc) := M7.out.cellK 4 rfl 3
                have g1 : (0 : Int) ≤ (k0 : Int) := by omega
                have g2 : (k0 : Int) < (sn : Int) := by omega
                obtain ⟨gF, rfl, hgF1, hgF2⟩ := (M7.out.upO 2 rfl).head (by omega)
                obtain ⟨at_, hat⟩ : ∃ m : Nat, s.at_ = (m : Int) := ⟨s.at_.toNat, by omega⟩
                obtain ⟨ta, hta⟩ : ∃ m : Nat, t.at_ = (m : Int) := ⟨t.at_.toNat, by omega⟩
                obtain ⟨L, hL⟩ : ∃ m : Nat, wordsF s = m := ⟨_, rfl⟩
                have hmx : max s.len 1 = (L : Int) := by rw [← hL]; unfold wordsF; omega
                have hnf0 := HNF.out
                have hf := HR.out.2 (by omega)
                obtain ⟨bf, of, rfl, hfr⟩ := hf
                have hsh := (M7.out.shapeO 2 rfl).1
                rw [hta] at d2 hsl
                rw [hat, hL] at hnl
                rw [hL] at hsl
                have HT2 := Lib.hid (And.intro hat (And.intro hta hL))
                have HFR := Lib.hid hfr
                obtain ⟨hsl1, hsl2⟩ : ta + L ≤ fn ∧ 1 ≤ L := by simpa using hsl
                obtain ⟨hnl1, _⟩ : at_ + L ≤ gn ∧ 1 ≤ L := by simpa using hnl
                have hn0 : 0 < n := by omega
                have hfc : ta + L ≤ c := by omega
                clear ht ht' hal hk0' HX HA2 d0 d1 d3 d4 d5 hsp hnp hsl hnl hfr hnf0
                go_upto_region 15 with fail
                have M8 := Lib.hid M7.out.drew
                have s1 : w7.drew.cell? ⟨gq, 0, none⟩ = some (.slice (some ⟨gF, 0, none⟩) gn fc2) ∧ w7.drew.cell? ⟨gs, 0, none⟩ = some (.string s.path) ∧ w7.drew.cell? ⟨gs, 1, none⟩ = some (.int .i64 s.kind) ∧ w7.drew.cell? ⟨gs, 2, none⟩ = some (.int .i64 (at_ : Int)) ∧ w7.drew.cell? ⟨gs, 3, none⟩ = some (.int .i64 s.len) ∧ w7.drew.cell? ⟨gs, 4, none⟩ = some (.bool s.keep) ∧ w7.drew.cell? ⟨gs, 5, none⟩ = some (.int .i64 s.role) := ⟨M8.out.cellK 1 rfl 0, M8.out.cellK 0 rfl 0, M8.out.cellK 0 rfl 1, by rw [← hat]; exact M8.out.cellK 0 rfl 2, M8.out.cellK 0 rfl 3, M8.out.cellK 0 rfl 4, M8.out.cellK 0 rfl 5⟩
                have i1 : (0 : Int) ≤ (at_ : Int) := by omega
                have i2 : (at_ : Int) ≤ (gn : Int) := by omega
                have i3 : ¬ fc2 = at_ := by omega
                have i4 : (0 : Int) ≤ (ta : Int) := by omega
                have i5 : (ta : Int) ≤ (ta : Int) + (L : Int) := by omega
                have i6 : (ta : Int) + (L : Int) ≤ (c : Int) := by omega
                have i7 : ¬ c = ta := by omega
                have hw : IntKind.i64.wrap ((ta : Int) + (L : Int)) = (ta : Int) + (L : Int) := by simp [IntKind.wrap, IntKind.bits, IntKind.signed]; omega
                have HMX := Lib.hid hmx
                have HOW8 : Hid (OwnM w7.drew gi sn (mapF po.slots 0)) := HOW7
                have HAT2 := Lib.hid hat
                clear M7 HOW7 hat hta hL hmx q3 g1 g2 d2 hbl2

                refine wp_region_held_drew (S := fun w' => w'.cell? ⟨gq, 0, none⟩ = some (.slice (some ⟨gF, 0, none⟩) gn fc2) ∧ w'.cell? ⟨gs, 0, none⟩ = some (.string s.path) ∧ w'.cell? ⟨gs, 1, none⟩ = some (.int .i64 s.kind) ∧ w'.cell? ⟨gs, 2, none⟩ = some (.int .i64 (at_ : Int)) ∧ w'.cell? ⟨gs, 3, none⟩ = some (.int .i64 s.len) ∧ w'.cell? ⟨gs, 4, none⟩ = some (.bool s.keep) ∧ w'.cell? ⟨gs, 5, none⟩ = some (.int .i64 s.role)) (by kernel_rfl) ?_ (fun hHeld => ?_)
                · exact s1
                refine wpAnyH_take (i := 0) (v := ?_) rfl (by kernel_rfl) (by kernel_rfl) (by kernel_rfl) (fun _ _ _ h => h) (Or.inl ⟨by rfl, ?_⟩) (by assumption) ?_
                rotate_left
                · intro w' hSw
                  (try dsimp only at hSw)
                  go_simp
                  try with_reducible rfl
                try simp only [Act.put, List.getElem_toArray, List.getElem_cons_zero, List.setIfInBounds_toArray, List.set_cons_zero, List.set_cons_succ]
                refine wpAnyH_take (i := 1) (v := ?_) rfl (by kernel_rfl) (by kernel_rfl) (by kernel_rfl) (fun _ _ _ h => h) (Or.inl ⟨by rfl, ?_⟩) (by assumption) ?_
                rotate_left
                · intro w' hSw
                  (try dsimp only at hSw)
                  go_simp
                  try with_reducible rfl
                try simp only [Act.put, List.getElem_toArray, List.getElem_cons_zero, List.getElem_cons_succ, List.setIfInBounds_toArray, List.set_cons_zero, List.set_cons_succ]
                refine wpAnyH_take (i := 2) (v := ?_) rfl (by kernel_rfl) (by kernel_rfl) (by kernel_rfl) (fun _ _ _ h => h) (Or.inl ⟨by rfl, ?_⟩) (by assumption) ?_
                rotate_left
                · intro w' hSw
                  (try dsimp only at hSw)
                  go_simp
                  try with_reducible rfl
                try simp only [Act.put, List.getElem_toArray, List.getElem_cons_zero, List.getElem_cons_succ, List.setIfInBounds_toArray, List.set_cons_zero, List.set_cons_succ]
                refine wpAnyH_take (i := 3) (v := ?_) rfl (by kernel_rfl) (by kernel_rfl) (by kernel_rfl) (fun _ _ _ h => h) (Or.inl ⟨by rfl, ?_⟩) (by assumption) ?_
                rotate_left
                · intro w' hSw
                  (try dsimp only at hSw)
                  go_simp
                  try with_reducible rfl
                try simp only [Act.put, List.getElem_toArray, List.getElem_cons_zero, List.getElem_cons_succ, List.setIfInBounds_toArray, List.set_cons_zero, List.set_cons_succ]
                refine wpAnyH_take (i := 4) (v := ?_) rfl (by kernel_rfl) (by kernel_rfl) (by kernel_rfl) (fun _ _ _ h => h) (Or.inl ⟨by rfl, ?_⟩) (by assumption) ?_
                rotate_left
                · intro w' hSw
                  (try dsimp only at hSw)
                  go_simp
                  try with_reducible rfl
                try simp only [Act.put, List.getElem_toArray, List.getElem_cons_zero, List.getElem_cons_succ, List.setIfInBounds_toArray, List.set_cons_zero, List.set_cons_succ]
                refine wpAnyH_take (i := 5) (v := ?_) rfl (by kernel_rfl) (by kernel_rfl) (by kernel_rfl) (fun _ _ _ h => h) (Or.inl ⟨by rfl, ?_⟩) (by assumption) ?_
                rotate_left
                · intro w' hSw
                  (try dsimp only at hSw)
                  go_simp
                  try with_reducible rfl
                try simp only [Act.put, List.getElem_toArray, List.getElem_cons_zero, List.getElem_cons_succ, List.setIfInBounds_toArray, List.set_cons_zero, List.set_cons_succ]
                refine wpAnyH_take (i := 6) (v := ?_) rfl (by kernel_rfl) (by kernel_rfl) (by kernel_rfl) (fun _ _ _ h => h) (Or.inl ⟨by rfl, ?_⟩) (by assumption) ?_
                rotate_left
                · intro w' hSw
                  (try dsimp only at hSw)
                  go_simp
                  try with_reducible rfl
                try simp only [Act.put, List.getElem_toArray, List.getElem_cons_zero, List.getElem_cons_succ, List.setIfInBounds_toArray, List.set_cons_zero, List.set_cons_succ]
                refine wpAnyH_take (i := 7) (v := ?_) rfl (by kernel_rfl) (by kernel_rfl) (by kernel_rfl) (fun _ _ _ h => h) (Or.inl ⟨by rfl, ?_⟩) (by assumption) ?_
                rotate_left
                · intro w' hSw
                  (try dsimp only at hSw)
                  go_simp
                  try with_reducible rfl
                try simp only [Act.put, List.getElem_toArray, List.getElem_cons_zero, List.getElem_cons_succ, List.setIfInBounds_toArray, List.set_cons_zero, List.set_cons_succ]
                refine wpAnyH_take (i := 8) (v := ?_) rfl (by kernel_rfl) (by kernel_rfl) (by kernel_rfl) (fun _ _ _ h => h) (Or.inl ⟨by rfl, ?_⟩) (by assumption) ?_
                rotate_left
                · intro w' hSw
                  (try dsimp only at hSw)
                  go_simp
                  try with_reducible rfl
                try simp only [Act.put, List.getElem_toArray, List.getElem_cons_zero, List.getElem_cons_succ, List.setIfInBounds_toArray, List.set_cons_zero, List.set_cons_succ]
                refine wpAnyH_ready (rs := [9]) (by kernel_rfl) (by simp) ?_
                refine AllReadyH.cons rfl (fun K hK => ?_) AllReadyH.nil
                have HKK := Lib.hid hK
                clear hK
                go_simp
                refine (words_any ⟨s.path, s.kind, (at_ : Int), s.len, s.keep, s.role⟩ _).mono ?_
                rintro e w9 ⟨rfl, hb9⟩
                try dsimp only
                rw [HMX.out]
                have M9 := Lib.hid (M8.out.below hb9)
                have HOW9 : Hid (OwnM w9 gi sn (mapF po.slots 0)) := Lib.hid (own_below HOW8.out hb9)
                clear hb9
                refine HKK.out.out _ _ (⟨M9.out.cellK 1 rfl 0, M9.out.cellK 0 rfl 0, M9.out.cellK 0 rfl 1, by rw [← HAT2.out]; exact M9.out.cellK 0 rfl 2, M9.out.cellK 0 rfl 3, M9.out.cellK 0 rfl 4, M9.out.cellK 0 rfl 5⟩) (fun hHeld => ?_)
                clear HKK K
                try simp only [Act.put, List.getElem_toArray, List.getElem_cons_zero, List.getElem_cons_succ, List.setIfInBounds_toArray, List.set_cons_zero, List.set_cons_succ]
                refine wpAnyH_take (i := 10) (v := ?_) rfl (by kernel_rfl) (by kernel_rfl) (by kernel_rfl) (fun _ _ _ h => h) (Or.inl ⟨by rfl, ?_⟩) (by assumption) ?_
                rotate_left
                · intro w' hSw
                  (try dsimp only at hSw)
                  go_simp
                  try with_reducible rfl
                try simp only [Act.put, List.getElem_toArray, List.getElem_cons_zero, List.getElem_cons_succ, List.setIfInBounds_toArray, List.set_cons_zero, List.set_cons_succ]
                refine wpAnyH_take (i := 11) (v := ?_) rfl (by kernel_rfl) (by kernel_rfl) (by kernel_rfl) (fun _ _ _ h => h) (Or.inl ⟨by rfl, ?_⟩) (by assumption) ?_
                rotate_left
                · intro w' hSw
                  (try dsimp only at hSw)
                  go_simp
                  try with_reducible rfl
                try simp only [Act.put, List.getElem_toArray, List.getElem_cons_zero, List.getElem_cons_succ, List.setIfInBounds_toArray, List.set_cons_zero, List.set_cons_succ]
                refine wpAnyH_ready (rs := [12]) (by kernel_rfl) (by simp) ?_
                refine AllReadyH.cons rfl (fun K hK => ?_) AllReadyH.nil
                have HKK := Lib.hid hK
                clear hK
                go_simp
                have int1 : (Try.prog.info? 3).map (·.size) = some 1 := by kernel_rfl
                have hfl : frame.length = fn := by rw [HLN.out]; exact HNF.out
                have hwl : (wordsAt frame ta L).length = L := words_at_len (by omega)
                have hcl : (ints (wordsAt frame ta L)).length = L := by rw [ints, List.length_map, hwl]
                have hx : ((ta : Int) + (L : Int)).toNat - ta = L := by omega
                have hsrc : ∀ j v, (ints (wordsAt frame ta L))[j]? = some v → w9.cell? ((⟨bf, of + ta, none⟩ : Addr).add j) = some v := by
                  intro j v hv
                  obtain ⟨b9, o9, e9, hc9⟩ := (HR.out.below M9.out.bel).2 (by omega)
                  injection e9 with e9
                  injection e9 with e8 e9
                  subst e8 e9
                  rw [addr_add, Nat.add_assoc]
                  exact hc9 (ta + j) v (words_src hv)
                obtain ⟨w10, hrun, hg10, hm10⟩ := run_copy_mem 23 23 3 3 Try.underlying23 int1 (M9.out.upO 2 rfl) at_ (gn - at_) (fc2 - at_) ⟨bf, of + ta, none⟩ (((ta : Int) + (L : Int)).toNat - ta) (c - ta) (ints (wordsAt frame ta L)) (by rw [hcl, hx]; show L = min L (gn - at_); omega) hsrc (by rw [hcl]; omega) (by simp [ints, Value.oneCell'])
                rw [ints_put] at hm10
                have M10 := Lib.hid ((hm10.upO 1 rfl).upO 2 rfl)
                have HOW10 : Hid (OwnM w10 gi sn (mapF po.slots 0)) := Lib.hid (HOW9.out.kept hg10 (fun e => by injection e with e; exact own_ne HOW9.out (M9.out.rowO 2 rfl) e))
                clear hg10 hm10 hsrc hcl hwl hfl
                rw [hrun]
                go_simp
                refine HKK.out.out _ _ (⟨M10.out.cellK 1 rfl 0, M10.out.cellK 0 rfl 0, M10.out.cellK 0 rfl 1, by rw [← HAT2.out]; exact M10.out.cellK 0 rfl 2, M10.out.cellK 0 rfl 3, M10.out.cellK 0 rfl 4, M10.out.cellK 0 rfl 5⟩) (fun hHeld => ?_)
                clear HKK K
                try simp only [Act.put, List.getElem_toArray, List.getElem_cons_zero, List.getElem_cons_succ, List.setIfInBounds_toArray, List.set_cons_zero, List.set_cons_succ]
                refine wpAnyH_done (by kernel_rfl) ?_ _
                have hcs : carryF po.slots frame pn.first (pn.slots.take (k + 1)) = putF (carryF po.slots frame pn.first (pn.slots.take k)) at_ (wordsAt frame ta L) := by
                  obtain ⟨t1, t2, t3⟩ := HT.out
                  obtain ⟨u1, u2, u3⟩ := HT2.out
                  rw [HCS.out]
                  unfold carry1
                  rw [t1]
                  simp only [t2, Option.map_some, Option.getD_some, u1, u2, u3, Int.toNat_natCast]
                rw [← hcs] at M10
                have M11 := Lib.hid ((M10.out.upO 1 rfl).delK 0)
                clear hcs M10 M9 M8 HOW8 HOW9 hrun
                go_wp2
                go_roundw
                case rel => exact ⟨k + 1, by omega, by go_num, HB, M11, HOW10⟩
                case measure => simp [intOf]; omega
            · have hall : pn.slots.take k = pn.slots := List.take_of_length_le (by rw [HQ.out.2.2.2]; omega)
              rw [hall] at M5
              have eR : R = ⟨0, carryF po.slots frame pn.first pn.slots, strangeF po.slots pn.slots, strangeF pn.slots po.slots⟩ := by
                rw [← HRR.out]
                unfold carriedF
                rw [if_neg (by rw [HC.out]; decide), if_neg (by rw [HLN.out, HQ.out.1]; exact not_not_intro HNF.out), if_neg (by rw [HCN.out]; decide)]
              have HE := Lib.hid eR
              have hFl : Hid ((carryF po.slots frame pn.first pn.slots).length = gn) := rd_len (M5.out.rdO 2 rfl)
              have hLl : Hid ((strangeF po.slots pn.slots).length = nL) := by rw [Hid]; simpa [strs] using hL1
              have hSl : Hid ((strangeF pn.slots po.slots).length = nS) := by rw [Hid]; simpa [strs] using hS1
              have z0 : wr.cell? ⟨gq, 0, none⟩ = some (.slice FA gn fc2) := M5.out.cellK 0 rfl 0
              have z1 : wr.cell? ⟨gq, 1, none⟩ = some (.slice LA nL lc) := M5.out.cellK 0 rfl 1
              have z2 : wr.cell? ⟨gq, 2, none⟩ = some (.slice SA nS sc2) := M5.out.cellK 0 rfl 2
              have bz := M5.out.cellK 1 rfl
              have fz := M5.out.frozenK 1 rfl
              have ME := Lib.hid ((((M5.out.upK 1 rfl).set (i := 0) (.slice FA gn fc2)).set (i := 1) (.slice LA nL lc)).set (i := 2) (.slice SA nS sc2))
              clear M5 eR hall HOW
              go_wp2
              refine bodyPost_ret (v := .tuple #[.agg #[.slice FA gn fc2, .slice LA nL lc, .slice SA nS sc2], .int .i64 0]) ?_ rfl ?_
              · simp [results, Try.results6, go_sem, ME.out.cellK 0 rfl 0, ME.out.cellK 0 rfl 1, ME.out.cellK 0 rfl 2]
              · rw [HE.out]
                refine ⟨FA, fc2, LA, lc, SA, sc2, ?_, ?_⟩
                · rw [hFl.out, hLl.out, hSl.out]
                · have h := Mem.rows ((ME.out.upO 1 rfl).upO 2 rfl)
                  rw [hFl.out, hLl.out, hSl.out]
                  exact h
    · have hn1 : ((n : Int) != (fn : Int)) = true := by simp; omega
      have eR : R = ⟨4, [], [], []⟩ := by rw [← HRR.out]; unfold carriedF; rw [if_neg (by rw [HC.out]; decide), if_pos (by rw [HLN.out, HQ.out.1]; exact hnf)]
      have bz := M2.out.cellK 0 rfl
      have fz := M2.out.frozenK 0 rfl
      have ME := Lib.hid (((M2.out.set (i := 0) (.slice none 0 0)).set (i := 1) (.slice none 0 0)).set (i := 2) (.slice none 0 0))
      clear M2
      go_wp2
      refine bodyPost_ret (v := .tuple #[.agg #[.slice none 0 0, .slice none 0 0, .slice none 0 0], .int .i64 4]) ?_ rfl ?_
      · simp [results, Try.results6, go_sem, ME.out.cellK 0 rfl 0, ME.out.cellK 0 rfl 1, ME.out.cellK 0 rfl 2]
      · rw [eR]
        exact CarR.none 4 rfl ME.out.bel
end Go.Proofs.Ytnalabohhocjaaa.Chg
