/- Layer 9 (packet), plain: what is read as a packet is just its bytes. -/
import Derived.Test.YtpblllkkcpahgaaPl
namespace Go.Proofs.Ytpblllkkcpahgaa
set_option linter.unusedSimpArgs false
set_option linter.unusedVariables false
set_option linter.unnecessarySimpa false
set_option maxRecDepth 100000
open Go.RowKit

theorem be2_of {x y : Int} (hx : 0 ≤ x ∧ x < 256) (hy : 0 ≤ y ∧ y < 256) : be2 (x * 256 + y) = [x, y] := by
  unfold be2
  rw [show (x * 256 + y) / 256 = x by omega, show (x * 256 + y) % 256 = y by omega]
theorem split6 {zs : List Int} (h : 6 ≤ zs.length) : zs = [zs.getD 0 0, zs.getD 1 0] ++ [zs.getD 2 0, zs.getD 3 0] ++ [zs.getD 4 0, zs.getD 5 0] ++ zs.drop 6 := by
  apply getD_eq
  · simp; omega
  · intro j hj
    by_cases h6 : j < 6
    · rcases (show j = 0 ∨ j = 1 ∨ j = 2 ∨ j = 3 ∨ j = 4 ∨ j = 5 by omega) with rfl | rfl | rfl | rfl | rfl | rfl <;> simp [List.getD]
    · obtain ⟨k, rfl⟩ : ∃ k, j = k + 6 := ⟨j - 6, by omega⟩
      simp [List.getD, List.getElem?_drop, Nat.add_comm]
theorem split2 {zs : List Int} (h : 2 ≤ zs.length) : zs = zs.take (zs.length - 2) ++ [zs.getD (zs.length - 2) 0, zs.getD (zs.length - 1) 0] := by
  conv => lhs; rw [← List.take_append_drop (zs.length - 2) zs]
  congr 1
  apply getD_eq
  · simp; omega
  · intro j hj
    have hj : j < 2 := by simp at hj; omega
    rcases (show j = 0 ∨ j = 1 by omega) with rfl | rfl
    · simp [List.getD, List.getElem?_drop]
    · simp [List.getD, List.getElem?_drop, show zs.length - 2 + 1 = zs.length - 1 by omega]
theorem take_getD {zs : List Int} {m j : Nat} (h : j < m) : (zs.take m).getD j 0 = zs.getD j 0 := by simp [List.getD, List.getElem?_take, h]
theorem parse_ok {zs : List Int} (hu : AllU8 zs) (h : (parseP zs).e = 0) : (0 ≤ (parseP zs).apid ∧ (parseP zs).apid < 2048) ∧ (0 ≤ (parseP zs).count ∧ (parseP zs).count < 16384) ∧ (parseP zs).zs.length ≤ 200 ∧ AllU8 (parseP zs).zs ∧
    summed (pktH (parseP zs).cmd (parseP zs).apid (parseP zs).count (parseP zs).zs) = zs := by
  have u0 := hu.get 0
  have u1 := hu.get 1
  have u2 := hu.get 2
  have u3 := hu.get 3
  have u4 := hu.get 4
  have u5 := hu.get 5
  have v0 := hu.get (zs.length - 2)
  have v1 := hu.get (zs.length - 1)
  have d1 : 0 ≤ hd1 zs ∧ hd1 zs < 65536 := by unfold hd1; omega
  have d2 : 0 ≤ hd2 zs ∧ hd2 zs < 65536 := by unfold hd2; omega
  unfold parseP at h ⊢
  by_cases h1 : zs.length < 9 ∨ sizeOfP zs ≠ zs.length
  · rw [if_pos h1] at h; simp at h
  · rw [if_neg h1] at h ⊢
    by_cases h2 : rightB zs
    · rw [if_neg (not_not_intro h2)] at h ⊢
      by_cases h3 : hd1 zs - hd1 zs % 2048 - hd1 zs / 4096 % 2 * 4096 ≠ 2048 ∨ hd2 zs - hd2 zs % 16384 ≠ 49152
      · rw [if_pos h3] at h; simp at h
      · rw [if_neg h3] at h ⊢
        by_cases h4 : 208 < zs.length
        · rw [if_pos h4] at h; simp at h
        · rw [if_neg h4] at h ⊢
          have hdl : ((zs.take (zs.length - 2)).drop 6).length = zs.length - 8 := by rw [List.length_drop, List.length_take]; omega
          refine ⟨by dsimp only; omega, by dsimp only; omega, by dsimp only; omega, (hu.take _).drop _, ?_⟩
          dsimp only
          have e1 : hdr (decide (hd1 zs / 4096 % 2 * 4096 ≠ 0)) (hd1 zs % 2048) = hd1 zs := by
            by_cases hc : hd1 zs / 4096 % 2 * 4096 ≠ 0
            · rw [decide_eq_true hc]; simp only [hdr]; omega
            · rw [decide_eq_false hc]; simp only [hdr]; omega
          have e2 : 49152 + hd2 zs % 16384 = hd2 zs := by omega
          have e3 : ((((zs.take (zs.length - 2)).drop 6).length : Int) + 2 - 1) = zs.getD 4 0 * 256 + zs.getD 5 0 := by
            rw [hdl]
            have hs : sizeOfP zs = zs.length := by omega
            unfold sizeOfP at hs
            omega
          have hH : pktH (decide (hd1 zs / 4096 % 2 * 4096 ≠ 0)) (hd1 zs % 2048) (hd2 zs % 16384) ((zs.take (zs.length - 2)).drop 6) = zs.take (zs.length - 2) := by
            unfold pktH
            rw [e1, e2, e3]
            unfold hd1 hd2
            rw [be2_of u0 u1, be2_of u2 u3, be2_of u4 u5]
            have := split6 (zs := zs.take (zs.length - 2)) (by rw [List.length_take]; omega)
            rw [take_getD (by omega), take_getD (by omega), take_getD (by omega), take_getD (by omega), take_getD (by omega), take_getD (by omega)] at this
            exact this.symm
          unfold summed
          rw [hH, h2.2, be2_of v0 v1]
          exact (split2 (by omega)).symm
    · rw [if_pos h2] at h; simp at h
theorem parse_u8 {zs : List Int} (hu : AllU8 zs) : AllU8 (parseP zs).zs ∧ (parseP zs).zs.length ≤ zs.length := by
  unfold parseP
  repeat' split
  all_goals first | exact ⟨AllU8.nil, Nat.zero_le _⟩ | exact ⟨(hu.take _).drop _, by dsimp only; rw [List.length_drop, List.length_take]; omega⟩
theorem summed_u8 {zs : List Int} (hu : AllU8 zs) : AllU8 (summed zs) := by
  have := crc_lt hu
  exact hu.append (be2_u8 (by omega))
theorem summed_len (zs : List Int) : (summed zs).length = zs.length + 2 := by simp [summed, be2_len]
theorem pktB_u8 {cmd : Bool} {apid count : Int} {zs : List Int} (ha : U16 apid) (hc : U16 count) (hu : AllU8 zs) : AllU8 (pktB cmd apid count zs) ∧ (pktB cmd apid count zs).length ≤ 208 := by
  unfold U16 at ha hc
  unfold pktB
  by_cases h1 : 2047 < apid ∨ 16383 < count
  · rw [if_pos h1]; exact ⟨AllU8.nil, Nat.zero_le _⟩
  · rw [if_neg h1]
    by_cases h2 : 200 < zs.length
    · rw [if_pos h2]; exact ⟨AllU8.nil, Nat.zero_le _⟩
    · rw [if_neg h2]
      exact ⟨summed_u8 (pktH_u8 (by omega) (by omega) (by omega) hu), by rw [summed_len, pktH_len]; omega⟩
end Go.Proofs.Ytpblllkkcpahgaa
