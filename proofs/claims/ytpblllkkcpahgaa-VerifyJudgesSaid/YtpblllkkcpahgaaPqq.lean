/- Layer 9 (packet), plain: what is read as a packet is just its bytes. -/
import Derived.Test.YtpblllkkcpahgaaPlq
namespace Go.Proofs.Ytpblllkkcpahgaa
set_option linter.unusedSimpArgs false
set_option linter.unusedVariables false
set_option linter.unnecessarySimpa false
set_option maxRecDepth 100000
open Go.RowKit

theorem summed_u8 {zs : List Int} (hu : AllU8 zs) : AllU8 (summed zs) := by
  have := crc_lt hu
  exact hu.append (be2_u8 (by omega))
theorem summed_len (zs : List Int) : (summed zs).length = zs.length + 2 := by simp [summed, be2_len]
theorem pktB_u8 {cmd : Bool} {apid count : Int} {zs : List Int} (ha : U16 apid) (hc : U16 count) (hu : AllU8 zs) : AllU8 (pktB cmd apid count zs) ∧ (pktB cmd apid count zs).length ≤ 208 := by
  unfold U16 at ha hc
  unfold pktB
  by_cases h1 : 2047 < apid ∨ 16383 < count
  · rw [if_pos h1]; exact ⟨AllU8.nil, Nat.zero_le _⟩
  · rw [if_neg h1]
    by_cases h2 : 200 < zs.length
    · rw [if_pos h2]; exact ⟨AllU8.nil, Nat.zero_le _⟩
    · rw [if_neg h2]
      exact ⟨summed_u8 (pktH_u8 (by omega) (by omega) (by omega) hu), by rw [summed_len, pktH_len]; omega⟩
end Go.Proofs.Ytpblllkkcpahgaa
