/-
  A frame of words tells those words; a spoilt one tells nothing. No conditions: plain laws.
-/
import Derived.Test.YtdncdmibmopilaaBrst
namespace Go.Proofs.Ytdncdmibmopilaa.Bus
open Go.Proofs.Ytdncdmibmopilaa.Byt

theorem bAt_app {cs bs : List UInt8} (i : Nat) : bAt (cs ++ bs) (cs.length + i) = bAt bs i := by
  simp [bAt, List.getD_eq_getElem?_getD, List.getElem?_append_right]
theorem bAt_left {cs bs : List UInt8} {i : Nat} (h : i < cs.length) : bAt (cs ++ bs) i = bAt cs i := by
  simp [bAt, List.getD_eq_getElem?_getD, List.getElem?_append_left h]
theorem words_at {zs : List Int} : ∀ {k : Nat}, k < zs.length → (∀ i, i < zs.length → 0 ≤ zs.getD i 0 ∧ zs.getD i 0 ≤ 65535) → (bAt (wordsB zs) (2 * k) : Int) + 256 * (bAt (wordsB zs) (2 * k + 1) : Int) = zs.getD k 0 := by
  induction zs with
  | nil => intro k h; simp at h
  | cons z zs ih =>
    intro k h hz
    have hw : wordsB (z :: zs) = two z.toNat ++ wordsB zs := rfl
    rw [hw]
    have h0 := hz 0 (by simp)
    simp at h0
    cases k with
    | zero =>
      rw [bAt_left (by simp [two]), bAt_left (by simp [two])]
      simp [two, bAt, lo8, hi8]
      omega
    | succ k =>
      have e1 : 2 * (k + 1) = (two z.toNat).length + 2 * k := by simp [two]; omega
      have e2 : 2 * (k + 1) + 1 = (two z.toNat).length + (2 * k + 1) := by simp [two]; omega
      rw [e2, bAt_app, e1, bAt_app, ih (by simpa using h) (fun i hi => by have := hz (i + 1) (by simpa using hi); simpa using this)]
      simp
theorem open_frame {st seq : Int} {zs : List Int} (h1 : 0 ≤ st) (h2 : st ≤ 247) (h3 : 0 ≤ seq) (h4 : seq ≤ 255) (h5 : speltE zs = 0) : openF (frameB st.toNat seq.toNat zs) = ((st, seq, zs), 0) := by
  obtain ⟨h60, hz⟩ := spelt_ok h5
  have hl := frame_len st.toNat seq.toNat zs
  have hb := body_len st.toNat seq.toNat zs
  have b0 : bAt (frameB st.toNat seq.toNat zs) 0 = st.toNat := by
    simp [frameB, bodyB, headB, bAt, lo8]; omega
  have b1 : bAt (frameB st.toNat seq.toNat zs) 1 = seq.toNat := by
    simp [frameB, bodyB, headB, bAt, lo8]; omega
  have b2 : bAt (frameB st.toNat seq.toNat zs) 2 = zs.length := by
    simp [frameB, bodyB, headB, bAt, lo8]; omega
  have ht : (frameB st.toNat seq.toNat zs).take ((frameB st.toNat seq.toNat zs).length - 2) = bodyB st.toNat seq.toNat zs := by
    rw [hl]; unfold frameB; rw [List.take_append_of_le_length (by omega), List.take_of_length_le (by omega)]
  have hc := crc_lt (bodyB st.toNat seq.toNat zs)
  have c0 : bAt (frameB st.toNat seq.toNat zs) ((frameB st.toNat seq.toNat zs).length - 2) = crc (bodyB st.toNat seq.toNat zs) % 256 := by
    rw [hl, show 5 + 2 * zs.length - 2 = (bodyB st.toNat seq.toNat zs).length + 0 by omega]; unfold frameB; rw [bAt_app]; simp [two, bAt, lo8]
  have c1 : bAt (frameB st.toNat seq.toNat zs) ((frameB st.toNat seq.toNat zs).length - 2 + 1) = crc (bodyB st.toNat seq.toNat zs) / 256 := by
    rw [hl, show 5 + 2 * zs.length - 2 + 1 = (bodyB st.toNat seq.toNat zs).length + 1 by omega]; unfold frameB; rw [bAt_app]; simp [two, bAt, hi8]; omega
  have hw : told (frameB st.toNat seq.toNat zs) zs.length = zs := by
    apply List.ext_getElem
    · simp [told_len]
    · intro k hk hk'
      simp only [told, List.getElem_map, List.getElem_range, tellW]
      have w := words_at hk' hz
      have hwl := words_len zs
      have e1 : bAt (frameB st.toNat seq.toNat zs) (3 + 2 * k) = bAt (wordsB zs) (2 * k) := by
        unfold frameB; rw [bAt_left (by omega)]; unfold bodyB
        rw [show 3 + 2 * k = (headB st.toNat seq.toNat zs.length).length + 2 * k by simp [headB], bAt_app]
      have e2 : bAt (frameB st.toNat seq.toNat zs) (3 + 2 * k + 1) = bAt (wordsB zs) (2 * k + 1) := by
        unfold frameB; rw [bAt_left (by omega)]; unfold bodyB
        rw [show 3 + 2 * k + 1 = (headB st.toNat seq.toNat zs.length).length + (2 * k + 1) by simp [headB]; omega, bAt_app]
      rw [e1, e2, w]
      simp [List.getD_eq_getElem?_getD, List.getElem?_eq_getElem hk']
  unfold openF
  rw [if_neg (by rw [b2]; omega), if_neg (by rw [ht, c0, c1]; omega), if_neg (by rw [b0]; omega), if_neg (by rw [b2]; omega), b0, b1, b2, hw]
  simp [Int.toNat_of_nonneg h1, Int.toNat_of_nonneg h3]
/-- what is taken has a sum that is right -/
theorem open_right {bs : List UInt8} (h : (openF bs).2 = 0) : 5 ≤ bs.length ∧ crcBits (8 * bs.length) (65535 ^^^ numB bs) = 0 := by
  unfold openF at h
  split at h
  · simp at h
  · rename_i h1
    split at h
    · simp at h
    · rename_i h2
      exact ⟨by omega, sum_right (by omega) (Decidable.not_not.1 h2)⟩
theorem spoilt {cs bs : List UInt8} (hl : cs.length = bs.length) {m k : Nat} (hm : m < 65536) (hm0 : m ≠ 0) (hk : k ≤ 8 * bs.length) (he : numB cs = numB bs ^^^ m * 2 ^ k) (hb : (openF bs).2 = 0) : (openF cs).2 ≠ 0 := by
  intro hc
  obtain ⟨h5, r1⟩ := open_right hb
  obtain ⟨_, r2⟩ := open_right hc
  exact hm0 (burst hl (by omega) hm hk he r2 r1)
end Go.Proofs.Ytdncdmibmopilaa.Bus
